-- Written for this claim by a program of this session (over the kit's print tool): functions as Lean functions, their contracts, rows. Lean checks it.
import Derived.Test.YtbbgnapepkenaaaE0
import Derived.Test.YtbbgnapepkenaaaE1
import Derived.Test.YtbbgnapepkenaaaE4
namespace Go.Proofs.Ytbbgnapepkenaaa.E
open Go.RowKit Go.Proofs.YtbbgnapepkenaaaW.PrintWords Go.Proofs.YtbbgnapepkenaaaW.PrintLast Go.Proofs.YtbbgnapepkenaaaW.PrintMore
attribute [local go_sem] max2_int min2_int max_two min_two max_three min_three max_four min_four   -- for this text's walks alone
set_option linter.unusedVariables false
set_option linter.unusedSimpArgs false

/-! ### verbatimlaw20_EvalSame: function 12 -/
mutual
def verbatimlaw20_EvalSame.j0 : Nat → ByteArray → Int → Bool → Bool → Int → List ByteArray → List (S40) → Option (Bool)
  | 0, _, _, _, _, _, _, _ => none
  | k + 1, x1, x2, x7, x18, x337000, x337001, x337002 => if x18 = true then (some x7) else (if x2 < 1 then (verbatimlaw20_EvalSame.j1 k x1 x2 x7 true x337000 x337001 x337002) else (verbatimlaw20_EvalSame.j1 k x1 x2 x7 (decide (x2 > 8)) x337000 x337001 x337002))
def verbatimlaw20_EvalSame.j1 : Nat → ByteArray → Int → Bool → Bool → Int → List ByteArray → List (S40) → Option (Bool)
  | 0, _, _, _, _, _, _, _ => none
  | k + 1, x1, x2, x7, x8, x337000, x337001, x337002 => (eval_Match.f k x337000 x337001 x337002 x1).bind fun t339 => ((some (([] : List Int) : List Int)).bind fun y340 => (if y340.length + x1.size < 140737488355328 then ((eval_Match.f k x337000 x337001 x337002 (strOfNums (y340 ++ bytesOf x1))).bind fun t346 => (if x7 = true then (if (t339 == t346) = true then ((eval_Match.f k 7 ([] : List ByteArray) ([] : List (S40)) x1).bind fun t347 => (if t347 = true then ((eval_Match.f k 8 ([] : List ByteArray) ([] : List (S40)) x1).bind fun t348 => (if t348 = true then (some false) else (if x8 = true then ((eval_Match.f k x2 (([(⟨#[]⟩ : ByteArray)] : List ByteArray)) ([] : List (S40)) x1).bind fun t352 => (some (!t352))) else (some true)))) else (some false))) else (some false)) else (some false))) else (none)))
end
def verbatimlaw20_EvalSame.f (k : Nat) (a0_0 : Int) (l0_1 : List ByteArray) (l0_2 : List (S40)) (a1 : ByteArray) (a2 : Int) : Option (Bool) := (verbatimlaw20_head.f k).bind fun t337 => ((verbatimlaw20_great.f k a0_0 l0_1 l0_2 2).bind fun t338 => (if t338 = true then (verbatimlaw20_EvalSame.j0 k a1 a2 t337 true a0_0 l0_1 l0_2) else (verbatimlaw20_EvalSame.j0 k a1 a2 t337 (decide ((a1.size : Int) > 3000)) a0_0 l0_1 l0_2)))
theorem verbatimlaw20_EvalSame.mono_l : ∀ k, (∀ y0 y1 y2 y3 y4 y5 y6, LeO (verbatimlaw20_EvalSame.j0 k y0 y1 y2 y3 y4 y5 y6) (verbatimlaw20_EvalSame.j0 (k + 1) y0 y1 y2 y3 y4 y5 y6)) ∧ (∀ y0 y1 y2 y3 y4 y5 y6, LeO (verbatimlaw20_EvalSame.j1 k y0 y1 y2 y3 y4 y5 y6) (verbatimlaw20_EvalSame.j1 (k + 1) y0 y1 y2 y3 y4 y5 y6))
  | 0 => ⟨fun _ _ _ _ _ _ _ r h => by simp [verbatimlaw20_EvalSame.j0] at h, fun _ _ _ _ _ _ _ r h => by simp [verbatimlaw20_EvalSame.j1] at h⟩
  | k + 1 => by
    obtain ⟨ih0, ih1⟩ := verbatimlaw20_EvalSame.mono_l k
    refine ⟨?_, ?_⟩
    · intro y0 y1 y2 y3 y4 y5 y6
      unfold verbatimlaw20_EvalSame.j0
      repeat' first
      | (with_reducible exact ih0 _ _ _ _ _ _ _)
      | (with_reducible exact ih1 _ _ _ _ _ _ _)
      | (with_reducible exact eval_Match.mono _ _ _ _ _)
      | (with_reducible exact verbatimlaw20_great.mono _ _ _ _ _)
      | (with_reducible exact verbatimlaw20_head.mono _)
      | (with_reducible exact LeO.refl _)
      | (with_reducible exact LeO.none _)
      | (with_reducible refine LeO.ite ?_ ?_)
      | (with_reducible refine LeO.bind ?_ (fun _ => ?_))
      | exact ih0 _ _ _ _ _ _ _
      | exact ih1 _ _ _ _ _ _ _
      | exact eval_Match.mono _ _ _ _ _
      | exact verbatimlaw20_great.mono _ _ _ _ _
      | exact verbatimlaw20_head.mono _
      | exact LeO.none _
      | refine LeO.ite ?_ ?_
      | refine LeO.bind ?_ (fun _ => ?_)
    · intro y0 y1 y2 y3 y4 y5 y6
      unfold verbatimlaw20_EvalSame.j1
      repeat' first
      | (with_reducible exact ih0 _ _ _ _ _ _ _)
      | (with_reducible exact ih1 _ _ _ _ _ _ _)
      | (with_reducible exact eval_Match.mono _ _ _ _ _)
      | (with_reducible exact verbatimlaw20_great.mono _ _ _ _ _)
      | (with_reducible exact verbatimlaw20_head.mono _)
      | (with_reducible exact LeO.refl _)
      | (with_reducible exact LeO.none _)
      | (with_reducible refine LeO.ite ?_ ?_)
      | (with_reducible refine LeO.bind ?_ (fun _ => ?_))
      | exact ih0 _ _ _ _ _ _ _
      | exact ih1 _ _ _ _ _ _ _
      | exact eval_Match.mono _ _ _ _ _
      | exact verbatimlaw20_great.mono _ _ _ _ _
      | exact verbatimlaw20_head.mono _
      | exact LeO.none _
      | refine LeO.ite ?_ ?_
      | refine LeO.bind ?_ (fun _ => ?_)
theorem verbatimlaw20_EvalSame.mono : ∀ a0 a1 a2 a3 a4 k, LeO (verbatimlaw20_EvalSame.f k a0 a1 a2 a3 a4) (verbatimlaw20_EvalSame.f (k + 1) a0 a1 a2 a3 a4) := by
  intro a0 a1 a2 a3 a4 k
  obtain ⟨ih0, ih1⟩ := verbatimlaw20_EvalSame.mono_l k
  unfold verbatimlaw20_EvalSame.f
  repeat' first
      | (with_reducible exact ih0 _ _ _ _ _ _ _)
      | (with_reducible exact ih1 _ _ _ _ _ _ _)
      | (with_reducible exact eval_Match.mono _ _ _ _ _)
      | (with_reducible exact verbatimlaw20_great.mono _ _ _ _ _)
      | (with_reducible exact verbatimlaw20_head.mono _)
      | (with_reducible exact LeO.refl _)
      | (with_reducible exact LeO.none _)
      | (with_reducible refine LeO.ite ?_ ?_)
      | (with_reducible refine LeO.bind ?_ (fun _ => ?_))
      | exact ih0 _ _ _ _ _ _ _
      | exact ih1 _ _ _ _ _ _ _
      | exact eval_Match.mono _ _ _ _ _
      | exact verbatimlaw20_great.mono _ _ _ _ _
      | exact verbatimlaw20_head.mono _
      | exact LeO.none _
      | refine LeO.ite ?_ ?_
      | refine LeO.bind ?_ (fun _ => ?_)
set_option maxHeartbeats 8000000 in
set_option maxRecDepth 100000 in
theorem verbatimlaw20_EvalSame.calls (k : Nat) (a0_0 : Int) (A0_1 : Option Addr) (c0_1 : Nat) (l0_1 : List ByteArray) (A0_2 : Option Addr) (c0_2 : Nat) (l0_2 : List (S40)) (a1 : ByteArray) (a2 : Int) (r : Bool) (w : World) (hG : GlobOk w) (hr0_1 : Kd.C Kd.string w A0_1 l0_1.length l0_1) (hc0_1 : l0_1.length ≤ c0_1) (hr0_2 : Kd.C k40 w A0_2 l0_2.length l0_2) (hc0_2 : l0_2.length ≤ c0_2) (h : verbatimlaw20_EvalSame.f k a0_0 l0_1 l0_2 a1 a2 = some r) :
    Calls Try.prog 12 #[.agg #[.int .i64 a0_0, .slice A0_1 l0_1.length c0_1, .slice A0_2 l0_2.length c0_2], .string a1, .int .i64 a2] w fun e w' => e = .returned (.bool r) ∧ Below w.heap.size w w' := by
  have hu40 := Try.underlying40
  have HG := Aside0.mk hG
  clear hG
  have HR0_1 := Aside0.mk hr0_1
  have HC0_1 := Aside0.mk hc0_1
  clear hr0_1 hc0_1
  have HR0_2 := Aside0.mk hr0_2
  have HC0_2 := Aside0.mk hc0_2
  clear hr0_2 hc0_2
  have HB := Aside0.mk (Below.refl w.heap.size w)
  have H : ((verbatimlaw20_head.f k).bind fun t337 => ((verbatimlaw20_great.f k a0_0 l0_1 l0_2 2).bind fun t338 => (if t338 = true then (verbatimlaw20_EvalSame.j0 k a1 a2 t337 true a0_0 l0_1 l0_2) else (verbatimlaw20_EvalSame.j0 k a1 a2 t337 (decide ((a1.size : Int) > 3000)) a0_0 l0_1 l0_2)))) = some r := h
  clear h
  replace H := Option.bind_eq_some_iff.mp H
  obtain ⟨t337, A40, H⟩ := H
  replace H : ((verbatimlaw20_great.f k a0_0 l0_1 l0_2 2).bind fun t338 => (if t338 = true then (verbatimlaw20_EvalSame.j0 k a1 a2 t337 true a0_0 l0_1 l0_2) else (verbatimlaw20_EvalSame.j0 k a1 a2 t337 (decide ((a1.size : Int) > 3000)) a0_0 l0_1 l0_2))) = some r := H
  have A4 := Aside0.mk A40
  clear A40
  have HC5 := Aside0.mk H
  clear H
  go_enter Try.func12, Try.ntmps12
  go_upto_region 2 with (first | ((with_reducible refine gate_dst (N := 3) rfl ?_); (try (refine gate_guard (by rfl) ?_; dsimp only)); refine box_event ?hg (N := 3) ?hd (cs := #[.int .i64 a0_0, .slice A0_1 l0_1.length c0_1, .slice A0_2 l0_2.length c0_2]) (t := 40) ?hr ?_; (case hd => rfl); (case hg => rfl); (case hr => first | (go_simp; done) | (go_simp; rfl)); intro gb336 hg w6 hbox hb; have n0_ := Aside0.mk (below_step (by repeat (first | (with_reducible first | exact HB.out | apply below_alloc | apply pw_below_drewN | apply below_drew1) | exact HB.out)) hb); have n1_ := Aside0.mk (hbox); have n2_ := Aside0.mk ((by rw [hg]; exact (below_size (by repeat (first | (with_reducible first | exact HB.out | apply below_alloc | apply pw_below_drewN | apply below_drew1) | exact HB.out))) : w.heap.size ≤ gb336)); have n3_ := Aside0.mk ((by rw [hg]; exact (below_size (by repeat (first | (with_reducible first | exact HB.out | apply below_alloc | apply pw_below_drewN | apply below_drew1) | exact HB.out))) : w.heap.size ≤ gb336)); clear HB; have HB := n0_; have BK336 := n1_; have GW336 := n2_; have GE336 := n3_; clear n0_ n1_ n2_ n3_; clear hb hbox hg) | ((with_reducible refine gate_callee (f := 21) rfl ?_); refine goesL_ (some 11) rfl rfl Try.func21 (by kernel_rfl) rfl #[] rfl (by (try simp only [List.map_toArray, List.map_cons, List.map_nil]); first | done | rfl | (simp only [List.length_drop, List.length_take]; rfl)) ?_; (with_reducible refine (verbatimlaw20_head.calls k  t337 _ ?side1 A4.out).mono ?_); (case side1 => first | exact GlobOk.below HG.out (by repeat (first | (with_reducible first | exact HB.out | apply below_alloc | apply pw_below_drewN | apply below_drew1 | refine below_set ?_ GE336.out) | exact HB.out)) | (repeat (first | exact HG.out | (with_reducible refine GlobOk.alloc ?_ _) | (with_reducible refine GlobOk.drewN ?_ _) | (with_reducible refine GlobOk.drew ?_)))); rintro e w7 ⟨rfl, hb⟩; refine ⟨_, rfl, ?_⟩; have n0_ := Aside0.mk (blk_below (g := gb336) (o := .cells #[.int .i64 a0_0, .slice A0_1 l0_1.length c0_1, .slice A0_2 l0_2.length c0_2] 40 (0, 0)) (by (with_reducible repeat (first | refine blk_drewN ?_ _ | refine blk_drew ?_ | refine blk_alloc ?_ _)); exact BK336.out) hb); have n1_ := Aside0.mk (below_step (by repeat (first | (with_reducible first | exact HB.out | apply below_alloc | apply pw_below_drewN | apply below_drew1 | refine below_set ?_ GE336.out) | exact HB.out)) hb); clear BK336; clear HB; have BK336 := n0_; have HB := n1_; clear n0_ n1_; (try clear hb); (try clear hb2); (try clear hk); (try clear hi)))
  (try simp only [Act.put, List.setIfInBounds_toArray, List.set_cons_zero, List.set_cons_succ])
  go_cut [18] (fun v18 wc => ∃ (kq : Nat) (x18_4 : Bool), v18 = .bool x18_4 ∧ Aside0 (verbatimlaw20_EvalSame.j0 kq a1 a2 t337 x18_4 a0_0 l0_1 l0_2 = some r) ∧ Aside0 (kq ≤ k) ∧ Aside0 (wc.heap[gb336]? = some (.cells #[.int .i64 a0_0, (.slice A0_1 l0_1.length c0_1), (.slice A0_2 l0_2.length c0_2)] 40 (0, 0))) ∧ Aside0 (Below w.heap.size w wc))
  case first =>
    have H := HC5.out
    clear HC5
    replace H := Option.bind_eq_some_iff.mp H
    obtain ⟨t338, A80, H⟩ := H
    replace H : (if t338 = true then (verbatimlaw20_EvalSame.j0 k a1 a2 t337 true a0_0 l0_1 l0_2) else (verbatimlaw20_EvalSame.j0 k a1 a2 t337 (decide ((a1.size : Int) > 3000)) a0_0 l0_1 l0_2)) = some r := H
    have A8 := Aside0.mk A80
    clear A80
    by_cases c9 : t338 = true
    · subst c9
      have H1 : (verbatimlaw20_EvalSame.j0 k a1 a2 t337 true a0_0 l0_1 l0_2) = some r := by rw [if_pos rfl] at H; exact H
      clear H
      have H := H1
      clear H1
      have H' := Aside0.mk H
      clear H
      have hcz10_0 : w7.cell? ⟨gb336, 0, none⟩ = some (.int .i64 a0_0) := (blk_cell BK336.out 0).trans rfl
      have hcz10_1 : w7.cell? ⟨gb336, 1, none⟩ = some (.slice A0_1 l0_1.length c0_1) := (blk_cell BK336.out 1).trans rfl
      have hcz10_2 : w7.cell? ⟨gb336, 2, none⟩ = some (.slice A0_2 l0_2.length c0_2) := (blk_cell BK336.out 2).trans rfl
      have hfz10_0 := blk_frozen BK336.out 0
      have hfz10_1 := blk_frozen BK336.out 1
      have hfz10_2 := blk_frozen BK336.out 2
      go_wp2_with (first | ((with_reducible refine gate_callee (f := 22) rfl ?_); refine goesL_ (some 13) rfl rfl Try.func22 (by kernel_rfl) rfl #[.agg #[.int .i64 a0_0, .slice A0_1 l0_1.length c0_1, .slice A0_2 l0_2.length c0_2], .int .i64 2] rfl (by (try simp only [List.map_toArray, List.map_cons, List.map_nil]); first | done | rfl | (simp only [List.length_drop, List.length_take]; rfl)) ?_; (with_reducible refine (verbatimlaw20_great.calls k a0_0 _ _ l0_1 _ _ l0_2 2 true _ ?side1 ?side2 ?side3 ?side4 A8.out).mono ?_); (case side1 => repeat (first | exact (Kd.C_below HR0_1.out HB.out) | (with_reducible refine Kd.C_alloc ?_ _) | (with_reducible refine Kd.C_drewN ?_ _) | (with_reducible refine Kd.C_drew ?_))); (case side2 => exact HC0_1.out); (case side3 => repeat (first | exact (Kd.C_below HR0_2.out HB.out) | (with_reducible refine Kd.C_alloc ?_ _) | (with_reducible refine Kd.C_drewN ?_ _) | (with_reducible refine Kd.C_drew ?_))); (case side4 => exact HC0_2.out); rintro e w11 ⟨rfl, hb⟩; refine ⟨_, rfl, ?_⟩; have n0_ := Aside0.mk (blk_below (g := gb336) (o := .cells #[.int .i64 a0_0, .slice A0_1 l0_1.length c0_1, .slice A0_2 l0_2.length c0_2] 40 (0, 0)) (by (with_reducible repeat (first | refine blk_drewN ?_ _ | refine blk_drew ?_ | refine blk_alloc ?_ _)); exact BK336.out) hb); have n1_ := Aside0.mk (below_step (by repeat (first | (with_reducible first | exact HB.out | apply below_alloc | apply pw_below_drewN | apply below_drew1 | refine below_set ?_ GE336.out) | exact HB.out)) hb); clear BK336; clear HB; have BK336 := n0_; have HB := n1_; clear n0_ n1_; (try clear hb); (try clear hb2); (try clear hk); (try clear hi)))
      go_meet
      case rel => exact ⟨_, (true), (by first | rfl | (simp; done) | (simp [*]; done)), H', ⟨by first | omega | exact Nat.le_refl _⟩, ⟨by (with_reducible repeat (first | refine blk_drewN ?_ _ | refine blk_drew ?_ | refine blk_alloc ?_ _)); exact BK336.out⟩, ⟨by repeat (first | (with_reducible first | exact HB.out | apply below_alloc | apply pw_below_drewN | apply below_drew1 | refine below_set ?_ GE336.out) | exact HB.out)⟩⟩
    · replace c9 := Bool.eq_false_iff.mpr c9
      subst c9
      have H1 : (verbatimlaw20_EvalSame.j0 k a1 a2 t337 (decide ((a1.size : Int) > 3000)) a0_0 l0_1 l0_2) = some r := by rw [if_neg (show ¬ (false = true) by decide)] at H; exact H
      clear H
      have H := H1
      clear H1
      have H' := Aside0.mk H
      clear H
      have hcz12_0 : w7.cell? ⟨gb336, 0, none⟩ = some (.int .i64 a0_0) := (blk_cell BK336.out 0).trans rfl
      have hcz12_1 : w7.cell? ⟨gb336, 1, none⟩ = some (.slice A0_1 l0_1.length c0_1) := (blk_cell BK336.out 1).trans rfl
      have hcz12_2 : w7.cell? ⟨gb336, 2, none⟩ = some (.slice A0_2 l0_2.length c0_2) := (blk_cell BK336.out 2).trans rfl
      have hfz12_0 := blk_frozen BK336.out 0
      have hfz12_1 := blk_frozen BK336.out 1
      have hfz12_2 := blk_frozen BK336.out 2
      go_wp2_with (first | ((with_reducible refine gate_callee (f := 22) rfl ?_); refine goesL_ (some 13) rfl rfl Try.func22 (by kernel_rfl) rfl #[.agg #[.int .i64 a0_0, .slice A0_1 l0_1.length c0_1, .slice A0_2 l0_2.length c0_2], .int .i64 2] rfl (by (try simp only [List.map_toArray, List.map_cons, List.map_nil]); first | done | rfl | (simp only [List.length_drop, List.length_take]; rfl)) ?_; (with_reducible refine (verbatimlaw20_great.calls k a0_0 _ _ l0_1 _ _ l0_2 2 false _ ?side1 ?side2 ?side3 ?side4 A8.out).mono ?_); (case side1 => repeat (first | exact (Kd.C_below HR0_1.out HB.out) | (with_reducible refine Kd.C_alloc ?_ _) | (with_reducible refine Kd.C_drewN ?_ _) | (with_reducible refine Kd.C_drew ?_))); (case side2 => exact HC0_1.out); (case side3 => repeat (first | exact (Kd.C_below HR0_2.out HB.out) | (with_reducible refine Kd.C_alloc ?_ _) | (with_reducible refine Kd.C_drewN ?_ _) | (with_reducible refine Kd.C_drew ?_))); (case side4 => exact HC0_2.out); rintro e w13 ⟨rfl, hb⟩; refine ⟨_, rfl, ?_⟩; have n0_ := Aside0.mk (blk_below (g := gb336) (o := .cells #[.int .i64 a0_0, .slice A0_1 l0_1.length c0_1, .slice A0_2 l0_2.length c0_2] 40 (0, 0)) (by (with_reducible repeat (first | refine blk_drewN ?_ _ | refine blk_drew ?_ | refine blk_alloc ?_ _)); exact BK336.out) hb); have n1_ := Aside0.mk (below_step (by repeat (first | (with_reducible first | exact HB.out | apply below_alloc | apply pw_below_drewN | apply below_drew1 | refine below_set ?_ GE336.out) | exact HB.out)) hb); clear BK336; clear HB; have BK336 := n0_; have HB := n1_; clear n0_ n1_; (try clear hb); (try clear hb2); (try clear hk); (try clear hi)))
      go_meet
      case rel => exact ⟨_, (decide ((a1.size : Int) > 3000)), (by first | rfl | (simp; done) | (simp [*]; done)), H', ⟨by first | omega | exact Nat.le_refl _⟩, ⟨by (with_reducible repeat (first | refine blk_drewN ?_ _ | refine blk_drew ?_ | refine blk_alloc ?_ _)); exact BK336.out⟩, ⟨by repeat (first | (with_reducible first | exact HB.out | apply below_alloc | apply pw_below_drewN | apply below_drew1 | refine below_set ?_ GE336.out) | exact HB.out)⟩⟩
  case rest =>
    clear HC5
    try clear c1
    try clear c2
    try clear p2
    try clear c9
    try clear c12
    try clear hcz10_0
    try clear hcz10_1
    try clear hcz10_2
    try clear hcz12_0
    try clear hcz12_1
    try clear hcz12_2
    try clear hfz10_0
    try clear hfz10_1
    try clear hfz10_2
    try clear hfz12_0
    try clear hfz12_1
    try clear hfz12_2
    obtain ⟨kq, x18_4, rfl, HA, HJ4, BK336, HB⟩ := hcut
    cases kq with
    | zero => exact absurd HA.out (by simp [verbatimlaw20_EvalSame.j0])
    | succ kj4 =>
      have H := HA.out
      clear HA
      simp only [verbatimlaw20_EvalSame.j0] at H
      by_cases c14 : x18_4 = true
      · subst c14
        have H1 : (some t337) = some r := by rw [if_pos rfl] at H; exact H
        clear H
        have H := H1
        clear H1
        obtain rfl := Option.some.inj H
        go_wp2
        go_ret
        exact ⟨by first | rfl | (simp [errW_none, errW_some] <;> rfl) | (simp [*, errW_none, errW_some] <;> rfl), by repeat (first | (with_reducible first | exact HB.out | apply below_alloc | apply pw_below_drewN | apply below_drew1 | refine below_set ?_ GE336.out) | exact HB.out)⟩
      · replace c14 := Bool.eq_false_iff.mpr c14
        subst c14
        have H1 : (if a2 < 1 then (verbatimlaw20_EvalSame.j1 kj4 a1 a2 t337 true a0_0 l0_1 l0_2) else (verbatimlaw20_EvalSame.j1 kj4 a1 a2 t337 (decide (a2 > 8)) a0_0 l0_1 l0_2)) = some r := by rw [if_neg (show ¬ (false = true) by decide)] at H; exact H
        clear H
        have H := H1
        clear H1
        have HC15 := Aside0.mk H
        clear H
        go_upto_region 4 with (fail)
        go_cut [8] (fun v8 wc => ∃ (kq : Nat) (x8_14 : Bool), v8 = .bool x8_14 ∧ Aside0 (verbatimlaw20_EvalSame.j1 kq a1 a2 t337 x8_14 a0_0 l0_1 l0_2 = some r) ∧ Aside0 (kq ≤ kj4) ∧ Aside0 (wc.heap[gb336]? = some (.cells #[.int .i64 a0_0, (.slice A0_1 l0_1.length c0_1), (.slice A0_2 l0_2.length c0_2)] 40 (0, 0))) ∧ Aside0 (Below w.heap.size w wc))
        case first =>
          have H := HC15.out
          clear HC15
          by_cases c16 : a2 < 1
          · rw [if_pos c16] at H
            have c16b0 : decide (a2 < 1) = true := decide_eq_true c16
            clear c16
            (first | rw [c16b0] | (simp only [i64_w, i32_w]; rw [c16b0]) | skip)
            have H' := Aside0.mk H
            clear H
            go_wp2
            go_meet
            case rel => exact ⟨_, (true), (by first | rfl | (simp; done) | (simp [*]; done)), H', ⟨by have := HJ4.out; first | omega | exact Nat.le_refl _⟩, ⟨by (with_reducible repeat (first | refine blk_drewN ?_ _ | refine blk_drew ?_ | refine blk_alloc ?_ _)); exact BK336.out⟩, ⟨by repeat (first | (with_reducible first | exact HB.out | apply below_alloc | apply pw_below_drewN | apply below_drew1 | refine below_set ?_ GE336.out) | exact HB.out)⟩⟩
          · rw [if_neg c16] at H
            have c16b0 : decide (a2 < 1) = false := decide_eq_false c16
            clear c16
            (first | rw [c16b0] | (simp only [i64_w, i32_w]; rw [c16b0]) | skip)
            have H' := Aside0.mk H
            clear H
            go_wp2
            go_meet
            case rel => exact ⟨_, (decide (a2 > 8)), (by first | rfl | (simp; done) | (simp [*]; done)), H', ⟨by have := HJ4.out; first | omega | exact Nat.le_refl _⟩, ⟨by (with_reducible repeat (first | refine blk_drewN ?_ _ | refine blk_drew ?_ | refine blk_alloc ?_ _)); exact BK336.out⟩, ⟨by repeat (first | (with_reducible first | exact HB.out | apply below_alloc | apply pw_below_drewN | apply below_drew1 | refine below_set ?_ GE336.out) | exact HB.out)⟩⟩
        case rest =>
          clear HC15
          try clear c1
          try clear c2
          try clear p2
          try clear c9
          try clear c12
          try clear c14
          try clear c16
          try clear c16b0
          try clear hcz10_0
          try clear hcz10_1
          try clear hcz10_2
          try clear hcz12_0
          try clear hcz12_1
          try clear hcz12_2
          try clear hfz10_0
          try clear hfz10_1
          try clear hfz10_2
          try clear hfz12_0
          try clear hfz12_1
          try clear hfz12_2
          try clear p2
          obtain ⟨kq, x8_14, rfl, HA, HJ14, BK336, HB⟩ := hcut
          cases kq with
          | zero => exact absurd HA.out (by simp [verbatimlaw20_EvalSame.j1])
          | succ kj14 =>
            have H := HA.out
            clear HA
            simp only [verbatimlaw20_EvalSame.j1] at H
            replace H := Option.bind_eq_some_iff.mp H
            obtain ⟨t339, A170, H⟩ := H
            replace H : ((some (([] : List Int) : List Int)).bind fun y340 => (if y340.length + a1.size < 140737488355328 then ((eval_Match.f kj14 a0_0 l0_1 l0_2 (strOfNums (y340 ++ bytesOf a1))).bind fun t346 => (if t337 = true then (if (t339 == t346) = true then ((eval_Match.f kj14 7 ([] : List ByteArray) ([] : List (S40)) a1).bind fun t347 => (if t347 = true then ((eval_Match.f kj14 8 ([] : List ByteArray) ([] : List (S40)) a1).bind fun t348 => (if t348 = true then (some false) else (if x8_14 = true then ((eval_Match.f kj14 a2 (([(⟨#[]⟩ : ByteArray)] : List ByteArray)) ([] : List (S40)) a1).bind fun t352 => (some (!t352))) else (some true)))) else (some false))) else (some false)) else (some false))) else (none))) = some r := H
            have A17 := Aside0.mk A170
            clear A170
            obtain ⟨y340, hy340⟩ : ∃ y_ : List Int, y_ = (([] : List Int)) := ⟨_, rfl⟩
            replace H : (if y340.length + a1.size < 140737488355328 then ((eval_Match.f kj14 a0_0 l0_1 l0_2 (strOfNums (y340 ++ bytesOf a1))).bind fun t346 => (if t337 = true then (if (t339 == t346) = true then ((eval_Match.f kj14 7 ([] : List ByteArray) ([] : List (S40)) a1).bind fun t347 => (if t347 = true then ((eval_Match.f kj14 8 ([] : List ByteArray) ([] : List (S40)) a1).bind fun t348 => (if t348 = true then (some false) else (if x8_14 = true then ((eval_Match.f kj14 a2 (([(⟨#[]⟩ : ByteArray)] : List ByteArray)) ([] : List (S40)) a1).bind fun t352 => (some (!t352))) else (some true)))) else (some false))) else (some false)) else (some false))) else (none)) = some r := by first | (rw [hy340]; with_reducible exact H) | (have H2_ := (Option.bind_some _ _).symm.trans H; rw [hy340]; with_reducible exact H2_) | (have H2_ := (Option.bind_some _ _).symm.trans H; with_reducible exact H2_) | with_reducible exact H | (rw [hy340]; exact H) | exact H
            have Ny340 := Aside0.mk hy340
            clear hy340
            by_cases c18 : y340.length + a1.size < 140737488355328
            · rw [if_pos c18] at H
              have LMc18 := Aside0.mk c18
              clear c18
              obtain ⟨y343, hy343⟩ : ∃ y_ : List Int, y_ = (y340 ++ bytesOf a1) := ⟨_, rfl⟩
              replace H : ((eval_Match.f kj14 a0_0 l0_1 l0_2 (strOfNums y343)).bind fun t346 => (if t337 = true then (if (t339 == t346) = true then ((eval_Match.f kj14 7 ([] : List ByteArray) ([] : List (S40)) a1).bind fun t347 => (if t347 = true then ((eval_Match.f kj14 8 ([] : List ByteArray) ([] : List (S40)) a1).bind fun t348 => (if t348 = true then (some false) else (if x8_14 = true then ((eval_Match.f kj14 a2 (([(⟨#[]⟩ : ByteArray)] : List ByteArray)) ([] : List (S40)) a1).bind fun t352 => (some (!t352))) else (some true)))) else (some false))) else (some false)) else (some false))) = some r := by first | (rw [hy343]; with_reducible exact H) | (have H2_ := (Option.bind_some _ _).symm.trans H; rw [hy343]; with_reducible exact H2_) | (have H2_ := (Option.bind_some _ _).symm.trans H; with_reducible exact H2_) | with_reducible exact H | (rw [hy343]; exact H) | exact H
              have Ny343 := Aside0.mk hy343
              clear hy343
              replace H := Option.bind_eq_some_iff.mp H
              obtain ⟨t346, A190, H⟩ := H
              replace H : (if t337 = true then (if (t339 == t346) = true then ((eval_Match.f kj14 7 ([] : List ByteArray) ([] : List (S40)) a1).bind fun t347 => (if t347 = true then ((eval_Match.f kj14 8 ([] : List ByteArray) ([] : List (S40)) a1).bind fun t348 => (if t348 = true then (some false) else (if x8_14 = true then ((eval_Match.f kj14 a2 (([(⟨#[]⟩ : ByteArray)] : List ByteArray)) ([] : List (S40)) a1).bind fun t352 => (some (!t352))) else (some true)))) else (some false))) else (some false)) else (some false)) = some r := H
              have A19 := Aside0.mk A190
              clear A190
              by_cases c20 : t337 = true
              · subst c20
                have H1 : (if (t339 == t346) = true then ((eval_Match.f kj14 7 ([] : List ByteArray) ([] : List (S40)) a1).bind fun t347 => (if t347 = true then ((eval_Match.f kj14 8 ([] : List ByteArray) ([] : List (S40)) a1).bind fun t348 => (if t348 = true then (some false) else (if x8_14 = true then ((eval_Match.f kj14 a2 (([(⟨#[]⟩ : ByteArray)] : List ByteArray)) ([] : List (S40)) a1).bind fun t352 => (some (!t352))) else (some true)))) else (some false))) else (some false)) = some r := by rw [if_pos rfl] at H; exact H
                clear H
                have H := H1
                clear H1
                by_cases c21 : (t339 == t346) = true
                · rw [if_pos c21] at H
                  have c21b0 : (t339 == t346) = true := c21
                  (try (have c21b1 : decide (t339 = t346) = true := by simpa using c21))
                  (try (have c21b2 : (t339 == t346) = true := by simpa using c21))
                  clear c21
                  replace H := Option.bind_eq_some_iff.mp H
                  obtain ⟨t347, A220, H⟩ := H
                  replace H : (if t347 = true then ((eval_Match.f kj14 8 ([] : List ByteArray) ([] : List (S40)) a1).bind fun t348 => (if t348 = true then (some false) else (if x8_14 = true then ((eval_Match.f kj14 a2 (([(⟨#[]⟩ : ByteArray)] : List ByteArray)) ([] : List (S40)) a1).bind fun t352 => (some (!t352))) else (some true)))) else (some false)) = some r := H
                  have A22 := Aside0.mk A220
                  clear A220
                  by_cases c23 : t347 = true
                  · subst c23
                    have H1 : ((eval_Match.f kj14 8 ([] : List ByteArray) ([] : List (S40)) a1).bind fun t348 => (if t348 = true then (some false) else (if x8_14 = true then ((eval_Match.f kj14 a2 (([(⟨#[]⟩ : ByteArray)] : List ByteArray)) ([] : List (S40)) a1).bind fun t352 => (some (!t352))) else (some true)))) = some r := by rw [if_pos rfl] at H; exact H
                    clear H
                    have H := H1
                    clear H1
                    replace H := Option.bind_eq_some_iff.mp H
                    obtain ⟨t348, A240, H⟩ := H
                    replace H : (if t348 = true then (some false) else (if x8_14 = true then ((eval_Match.f kj14 a2 (([(⟨#[]⟩ : ByteArray)] : List ByteArray)) ([] : List (S40)) a1).bind fun t352 => (some (!t352))) else (some true))) = some r := H
                    have A24 := Aside0.mk A240
                    clear A240
                    by_cases c25 : t348 = true
                    · subst c25
                      have H1 : (some false) = some r := by rw [if_pos rfl] at H; exact H
                      clear H
                      have H := H1
                      clear H1
                      obtain rfl := Option.some.inj H
                      have hcz26_0 : wc.cell? ⟨gb336, 0, none⟩ = some (.int .i64 a0_0) := (blk_cell BK336.out 0).trans rfl
                      have hcz26_1 : wc.cell? ⟨gb336, 1, none⟩ = some (.slice A0_1 l0_1.length c0_1) := (blk_cell BK336.out 1).trans rfl
                      have hcz26_2 : wc.cell? ⟨gb336, 2, none⟩ = some (.slice A0_2 l0_2.length c0_2) := (blk_cell BK336.out 2).trans rfl
                      have hfz26_0 := blk_frozen BK336.out 0
                      have hfz26_1 := blk_frozen BK336.out 1
                      have hfz26_2 := blk_frozen BK336.out 2
                      try go_wp2_with (first | ((with_reducible refine gate_callee (f := 25) rfl ?_); refine goesL_ (some 28) rfl rfl Try.func25 (by kernel_rfl) rfl #[.agg #[.int .i64 a0_0, .slice A0_1 l0_1.length c0_1, .slice A0_2 l0_2.length c0_2], .string a1] rfl (by (try simp only [List.map_toArray, List.map_cons, List.map_nil]); first | done | rfl | (simp only [List.length_drop, List.length_take]; rfl)) ?_; (with_reducible refine (eval_Match.calls kj14 a0_0 _ _ l0_1 _ _ l0_2 a1 t339 _ ?side1 ?side2 ?side3 ?side4 ?side5 A17.out).mono ?_); (case side1 => first | exact GlobOk.below HG.out (by repeat (first | (with_reducible first | exact HB.out | apply below_alloc | apply pw_below_drewN | apply below_drew1 | refine below_set ?_ GE336.out) | exact HB.out)) | (repeat (first | exact HG.out | (with_reducible refine GlobOk.alloc ?_ _) | (with_reducible refine GlobOk.drewN ?_ _) | (with_reducible refine GlobOk.drew ?_)))); (case side2 => repeat (first | exact (Kd.C_below HR0_1.out HB.out) | (with_reducible refine Kd.C_alloc ?_ _) | (with_reducible refine Kd.C_drewN ?_ _) | (with_reducible refine Kd.C_drew ?_))); (case side3 => exact HC0_1.out); (case side4 => repeat (first | exact (Kd.C_below HR0_2.out HB.out) | (with_reducible refine Kd.C_alloc ?_ _) | (with_reducible refine Kd.C_drewN ?_ _) | (with_reducible refine Kd.C_drew ?_))); (case side5 => exact HC0_2.out); rintro e w27 ⟨rfl, hb⟩; refine ⟨_, rfl, ?_⟩; have n0_ := Aside0.mk (blk_below (g := gb336) (o := .cells #[.int .i64 a0_0, .slice A0_1 l0_1.length c0_1, .slice A0_2 l0_2.length c0_2] 40 (0, 0)) (by (with_reducible repeat (first | refine blk_drewN ?_ _ | refine blk_drew ?_ | refine blk_alloc ?_ _)); exact BK336.out) hb); have n1_ := Aside0.mk (below_step (by repeat (first | (with_reducible first | exact HB.out | apply below_alloc | apply pw_below_drewN | apply below_drew1 | refine below_set ?_ GE336.out) | exact HB.out)) hb); clear BK336; clear HB; have BK336 := n0_; have HB := n1_; clear n0_ n1_; (try clear hb); (try clear hb2); (try clear hk); (try clear hi)))
                      have n0_ := Aside0.mk (blk_drew BK336.out)
                      have n1_ := Aside0.mk (below_drew1 HB.out)
                      clear BK336
                      clear HB
                      have BK336 := n0_
                      have HB := n1_
                      clear n0_ n1_
                      refine start_ (n := 7) (S := fun w' => w'.cell? ⟨gb336, 0, none⟩ = some (.int .i64 a0_0) ∧ w'.cell? ⟨gb336, 1, none⟩ = some (.slice A0_1 l0_1.length c0_1) ∧ w'.cell? ⟨gb336, 2, none⟩ = some (.slice A0_2 l0_2.length c0_2)) (ds := []) #[false, false, false, false, false, false, false] (by kernel_rfl) rfl rfl ⟨(blk_cell BK336.out 0).trans rfl, (blk_cell BK336.out 1).trans rfl, (blk_cell BK336.out 2).trans rfl⟩ (fun hHeld => ?_)
                      generalize w27.drew = w28 at BK336 HB hHeld ⊢
                      refine pure_ (i := 2) (N := some 31) (v := ?_) (a' := ?_) #[false, false, true, false, false, false, false] rfl rfl (by kernel_rfl) (fun _ _ _ h => h) (Or.inl ⟨by rfl, ?_⟩) ?_ ?_
                      rotate_left
                      · intro w'
                        go_simp
                        with_reducible rfl
                      rotate_left
                      · simp only [Act.put, List.setIfInBounds_toArray, List.set_cons_zero, List.set_cons_succ, i64_w, i32_w]
                        rfl
                      refine take_ (i := 0) (N := some 29) (v := ?_) (a' := ?_) #[true, false, true, false, false, false, false] rfl rfl (by kernel_rfl) (fun _ _ _ h => h) (Or.inl ⟨by rfl, ?_⟩) hHeld ?_ ?_
                      rotate_left
                      · rintro w' ⟨s0, s1, s2⟩
                        go_simp
                        with_reducible rfl
                      rotate_left
                      · simp only [Act.put, List.setIfInBounds_toArray, List.set_cons_zero, List.set_cons_succ, i64_w, i32_w]
                        rfl
                      refine one_ (i := 1) (N := some 30) #[true, true, true, false, false, false, false] rfl rfl (by kernel_rfl) (by decide) (fun K hK => ?_)
                      refine Kd.R_lit_step (Kd.int .u8) _ 5 ?hg (N := 30) ?hd (xs := ([] : List Int)) (inner := []) (ok := fun _ => True) (okp := fun _ => True) ?hr ?hp (fun _ hk => hk) trivial (Below.refl _ _) (Nat.le_refl _) (by simp) ?_; (case hd => rfl); (case hg => rfl); (case hr => first | (go_simp; done) | (go_simp; rfl)); (case hp => exact (Reps.none _ _))
                      intro v341 w29 ho30 hb hg_ hnew_
                      clear hg_ hnew_
                      (first | rw [← Ny340.out] at ho30 | (simp only [Int.reduceToNat] at ho30; rw [← Ny340.out] at ho30))
                      have n0_ := Aside0.mk (Kd.R_lower ho30 (below_size (by repeat (first | (with_reducible first | exact HB.out | apply below_alloc | apply pw_below_drewN | apply below_drew1 | refine below_set ?_ GE336.out) | exact HB.out))))
                      have n1_ := Aside0.mk (blk_below (g := gb336) (o := .cells #[.int .i64 a0_0, .slice A0_1 l0_1.length c0_1, .slice A0_2 l0_2.length c0_2] 40 (0, 0)) (by (with_reducible repeat (first | refine blk_drewN ?_ _ | refine blk_drew ?_ | refine blk_alloc ?_ _)); exact BK336.out) hb)
                      have n2_ := Aside0.mk (below_step (by repeat (first | (with_reducible first | exact HB.out | apply below_alloc | apply pw_below_drewN | apply below_drew1 | refine below_set ?_ GE336.out) | exact HB.out)) hb)
                      clear BK336
                      clear HB
                      have HO342 := n0_
                      have BK336 := n1_
                      have HB := n2_
                      clear n0_ n1_ n2_
                      clear hb ho30
                      refine hK.out _ _ ⟨(blk_cell BK336.out 0).trans rfl, (blk_cell BK336.out 1).trans rfl, (blk_cell BK336.out 2).trans rfl⟩ (fun hHeld => ?_)
                      clear hK K
                      refine norm_ (a' := ?_) ?_ ?_
                      rotate_left
                      · show Act.put _ (some 30) _ = _
                        simp only [Act.put, List.setIfInBounds_toArray, List.set_cons_zero, List.set_cons_succ, i64_w, i32_w]
                        rfl
                      refine one_ (i := 3) (N := some 32) #[true, true, true, true, false, false, false] rfl rfl (by kernel_rfl) (by decide) (fun K hK => ?_)
                      refine print_append_str_step (w0 := w) w.heap.size (by rfl) (.tmp 30) _ 33 9 5 rfl Try.underlying33 Try.underlying9 info5 v341 y340 a1 rfl rfl ?aO ?aB ?aS ?aL ?_
                      (case aB => exact (by repeat (first | (with_reducible first | exact HB.out | apply below_alloc | apply pw_below_drewN | apply below_drew1 | refine below_set ?_ GE336.out) | exact HB.out)))
                      (case aO => exact (Kd.own_of_R (by (with_reducible repeat (first | apply Kd.R_alloc | apply Kd.R_drewN | apply Kd.R_drew)); exact HO342.out)))
                      (case aS => exact (below_size (by repeat (first | (with_reducible first | exact HB.out | apply below_alloc | apply pw_below_drewN | apply below_drew1 | refine below_set ?_ GE336.out) | exact HB.out))))
                      (case aL => have := LMc18.out; omega)
                      intro v344 w31 ho0 hb hg
                      have ho := Kd.R_of_own (h1 := fun _ => rfl) (ok := fun _ => True) ho0 (fun _ _ => trivial)
                      clear ho0
                      have hat := True.intro
                      rw [← Ny343.out] at ho
                      change Kd.R (Kd.int .u8) 5 w31 w.heap.size (fun _ => True) v344 y343 at ho
                      have n0_ := Aside0.mk (blk_grown (g := gb336) (o := .cells #[.int .i64 a0_0, .slice A0_1 l0_1.length c0_1, .slice A0_2 l0_2.length c0_2] 40 (0, 0)) (by (with_reducible repeat (first | refine blk_drewN ?_ _ | refine blk_drew ?_ | refine blk_alloc ?_ _)); exact BK336.out) hg (Kd.R_ne HO342.out BK336.out (by decide)))
                      have n1_ := Aside0.mk (hb)
                      have n2_ := Aside0.mk (ho)
                      clear BK336
                      clear HB
                      clear HO342
                      have BK336 := n0_
                      have HB := n1_
                      have HO345 := n2_
                      clear n0_ n1_ n2_
                      clear ho hb hg hat
                      refine hK.out _ _ ⟨(blk_cell BK336.out 0).trans rfl, (blk_cell BK336.out 1).trans rfl, (blk_cell BK336.out 2).trans rfl⟩ (fun hHeld => ?_)
                      clear hK K
                      refine norm_ (a' := ?_) ?_ ?_
                      rotate_left
                      · show Act.put _ (some 32) _ = _
                        simp only [Act.put, List.setIfInBounds_toArray, List.set_cons_zero, List.set_cons_succ, i64_w, i32_w]
                        rfl
                      refine one_ (i := 4) (N := some 33) #[true, true, true, true, true, false, false] rfl rfl (by kernel_rfl) (by decide) (fun K hK => ?_)
                      have hcv32 := own_string (P := Try.prog) Try.underlying33 Try.underlying5 Try.underlying9 (Kd.own_of_R HO345.out)
                      refine value_ (w1 := ?_) (v := ?_) (by rfl) rfl ?_ ?_
                      rotate_left 2
                      · go_simp
                        constructor
                        · rfl
                        · rfl
                      clear hcv32
                      refine hK.out _ _ ⟨(blk_cell BK336.out 0).trans rfl, (blk_cell BK336.out 1).trans rfl, (blk_cell BK336.out 2).trans rfl⟩ (fun hHeld => ?_)
                      clear hK K
                      refine norm_ (a' := ?_) ?_ ?_
                      rotate_left
                      · show Act.put _ (some 33) _ = _
                        simp only [Act.put, List.setIfInBounds_toArray, List.set_cons_zero, List.set_cons_succ, i64_w, i32_w]
                        rfl
                      refine one_ (i := 5) (N := some 34) #[true, true, true, true, true, true, false] rfl rfl (by kernel_rfl) (by decide) (fun K hK => ?_)
                      refine goes_ Try.func25 (by kernel_rfl) rfl #[.agg #[.int .i64 a0_0, .slice A0_1 l0_1.length c0_1, .slice A0_2 l0_2.length c0_2], .string (strOfNums y343)] (by rfl) rfl rfl (by (try simp only [List.map_toArray, List.map_cons, List.map_nil]); first | done | rfl | (simp only [List.length_drop, List.length_take]; rfl)) ?_
                      with_reducible refine (eval_Match.calls kj14 a0_0 _ _ l0_1 _ _ l0_2 (strOfNums y343) t346 _ ?side1 ?side2 ?side3 ?side4 ?side5 A19.out).mono ?_
                      (case side1 => first | exact GlobOk.below HG.out (by repeat (first | (with_reducible first | exact HB.out | apply below_alloc | apply pw_below_drewN | apply below_drew1 | refine below_set ?_ GE336.out) | exact HB.out)) | (repeat (first | exact HG.out | (with_reducible refine GlobOk.alloc ?_ _) | (with_reducible refine GlobOk.drewN ?_ _) | (with_reducible refine GlobOk.drew ?_))))
                      (case side2 => repeat (first | exact (Kd.C_below HR0_1.out HB.out) | (with_reducible refine Kd.C_alloc ?_ _) | (with_reducible refine Kd.C_drewN ?_ _) | (with_reducible refine Kd.C_drew ?_)))
                      (case side3 => exact HC0_1.out)
                      (case side4 => repeat (first | exact (Kd.C_below HR0_2.out HB.out) | (with_reducible refine Kd.C_alloc ?_ _) | (with_reducible refine Kd.C_drewN ?_ _) | (with_reducible refine Kd.C_drew ?_)))
                      (case side5 => exact HC0_2.out)
                      rintro e w33 ⟨rfl, hb⟩
                      refine ⟨_, rfl, ?_⟩
                      have n0_ := Aside0.mk (Kd.R_below (by (with_reducible repeat (first | apply Kd.R_alloc | apply Kd.R_drewN | apply Kd.R_drew)); exact HO345.out) hb)
                      have n1_ := Aside0.mk (blk_below (g := gb336) (o := .cells #[.int .i64 a0_0, .slice A0_1 l0_1.length c0_1, .slice A0_2 l0_2.length c0_2] 40 (0, 0)) (by (with_reducible repeat (first | refine blk_drewN ?_ _ | refine blk_drew ?_ | refine blk_alloc ?_ _)); exact BK336.out) hb)
                      have n2_ := Aside0.mk (below_step (by repeat (first | (with_reducible first | exact HB.out | apply below_alloc | apply pw_below_drewN | apply below_drew1 | refine below_set ?_ GE336.out) | exact HB.out)) hb)
                      clear HO345
                      clear BK336
                      clear HB
                      have HO345 := n0_
                      have BK336 := n1_
                      have HB := n2_
                      clear n0_ n1_ n2_
                      (try clear hb)
                      (try clear hb2)
                      (try clear hk)
                      (try clear hi)
                      refine hK.out _ _ ⟨(blk_cell BK336.out 0).trans rfl, (blk_cell BK336.out 1).trans rfl, (blk_cell BK336.out 2).trans rfl⟩ (fun hHeld => ?_)
                      clear hK K
                      refine norm_ (a' := ?_) ?_ ?_
                      rotate_left
                      · show Act.put _ (some 34) _ = _
                        simp only [Act.put, List.setIfInBounds_toArray, List.set_cons_zero, List.set_cons_succ, i64_w, i32_w]
                        rfl
                      refine pure_ (i := 6) (N := some 10) (v := ?_) (a' := ?_) #[true, true, true, true, true, true, true] rfl rfl (by kernel_rfl) (fun _ _ _ h => h) (Or.inl ⟨by rfl, ?_⟩) ?_ ?_
                      rotate_left
                      · intro w'
                        go_simp
                        with_reducible rfl
                      rotate_left
                      · simp only [Act.put, List.setIfInBounds_toArray, List.set_cons_zero, List.set_cons_succ, i64_w, i32_w]
                        rfl
                      refine done_ (by kernel_rfl) ?_
                      try go_wp2_with (first | (go_at_call 25; (with_reducible refine calls_of_args (args' := #[.agg #[.int .i64 7, .slice none 0 0, .slice none 0 0], .string a1]) rfl ?_); (refine (eval_Match.calls kj14 7 _ _ ([] : List ByteArray) _ _ ([] : List (S40)) a1 true _ ?side1 ?side2 ?side3 ?side4 ?side5 A22.out).mono ?_); (case side1 => first | exact GlobOk.below HG.out (by repeat (first | (with_reducible first | exact HB.out | apply below_alloc | apply pw_below_drewN | apply below_drew1 | refine below_set ?_ GE336.out) | exact HB.out)) | (repeat (first | exact HG.out | (with_reducible refine GlobOk.alloc ?_ _) | (with_reducible refine GlobOk.drewN ?_ _) | (with_reducible refine GlobOk.drew ?_)))); (case side2 => exact Kd.C_nil _ _); (case side3 => exact Nat.le_refl _); (case side4 => exact Kd.C_nil _ _); (case side5 => exact Nat.le_refl _); rintro e w34 ⟨rfl, hb⟩; have n0_ := Aside0.mk (Kd.R_below (by (with_reducible repeat (first | apply Kd.R_alloc | apply Kd.R_drewN | apply Kd.R_drew)); exact HO345.out) hb); have n1_ := Aside0.mk (blk_below (g := gb336) (o := .cells #[.int .i64 a0_0, .slice A0_1 l0_1.length c0_1, .slice A0_2 l0_2.length c0_2] 40 (0, 0)) (by (with_reducible repeat (first | refine blk_drewN ?_ _ | refine blk_drew ?_ | refine blk_alloc ?_ _)); exact BK336.out) hb); have n2_ := Aside0.mk (below_step (by repeat (first | (with_reducible first | exact HB.out | apply below_alloc | apply pw_below_drewN | apply below_drew1 | refine below_set ?_ GE336.out) | exact HB.out)) hb); clear HO345; clear BK336; clear HB; have HO345 := n0_; have BK336 := n1_; have HB := n2_; clear n0_ n1_ n2_; (try clear hb); (try clear hb2); (try clear hk); (try clear hi)) | (go_at_call 25; (with_reducible refine calls_of_args (args' := #[.agg #[.int .i64 8, .slice none 0 0, .slice none 0 0], .string a1]) rfl ?_); (refine (eval_Match.calls kj14 8 _ _ ([] : List ByteArray) _ _ ([] : List (S40)) a1 true _ ?side1 ?side2 ?side3 ?side4 ?side5 A24.out).mono ?_); (case side1 => first | exact GlobOk.below HG.out (by repeat (first | (with_reducible first | exact HB.out | apply below_alloc | apply pw_below_drewN | apply below_drew1 | refine below_set ?_ GE336.out) | exact HB.out)) | (repeat (first | exact HG.out | (with_reducible refine GlobOk.alloc ?_ _) | (with_reducible refine GlobOk.drewN ?_ _) | (with_reducible refine GlobOk.drew ?_)))); (case side2 => exact Kd.C_nil _ _); (case side3 => exact Nat.le_refl _); (case side4 => exact Kd.C_nil _ _); (case side5 => exact Nat.le_refl _); rintro e w35 ⟨rfl, hb⟩; have n0_ := Aside0.mk (Kd.R_below (by (with_reducible repeat (first | apply Kd.R_alloc | apply Kd.R_drewN | apply Kd.R_drew)); exact HO345.out) hb); have n1_ := Aside0.mk (blk_below (g := gb336) (o := .cells #[.int .i64 a0_0, .slice A0_1 l0_1.length c0_1, .slice A0_2 l0_2.length c0_2] 40 (0, 0)) (by (with_reducible repeat (first | refine blk_drewN ?_ _ | refine blk_drew ?_ | refine blk_alloc ?_ _)); exact BK336.out) hb); have n2_ := Aside0.mk (below_step (by repeat (first | (with_reducible first | exact HB.out | apply below_alloc | apply pw_below_drewN | apply below_drew1 | refine below_set ?_ GE336.out) | exact HB.out)) hb); clear HO345; clear BK336; clear HB; have HO345 := n0_; have BK336 := n1_; have HB := n2_; clear n0_ n1_ n2_; (try clear hb); (try clear hb2); (try clear hk); (try clear hi)))
                      go_ret
                      exact ⟨by first | rfl | (simp [errW_none, errW_some] <;> rfl) | (simp [*, errW_none, errW_some] <;> rfl), by repeat (first | (with_reducible first | exact HB.out | apply below_alloc | apply pw_below_drewN | apply below_drew1 | refine below_set ?_ GE336.out) | exact HB.out)⟩
                    · replace c25 := Bool.eq_false_iff.mpr c25
                      subst c25
                      have H1 : (if x8_14 = true then ((eval_Match.f kj14 a2 (([(⟨#[]⟩ : ByteArray)] : List ByteArray)) ([] : List (S40)) a1).bind fun t352 => (some (!t352))) else (some true)) = some r := by rw [if_neg (show ¬ (false = true) by decide)] at H; exact H
                      clear H
                      have H := H1
                      clear H1
                      by_cases c36 : x8_14 = true
                      · subst c36
                        have H1 : ((eval_Match.f kj14 a2 (([(⟨#[]⟩ : ByteArray)] : List ByteArray)) ([] : List (S40)) a1).bind fun t352 => (some (!t352))) = some r := by rw [if_pos rfl] at H; exact H
                        clear H
                        have H := H1
                        clear H1
                        obtain ⟨y349, hy349⟩ : ∃ y_ : List ByteArray, y_ = (([(⟨#[]⟩ : ByteArray)] : List ByteArray)) := ⟨_, rfl⟩
                        replace H : ((eval_Match.f kj14 a2 y349 ([] : List (S40)) a1).bind fun t352 => (some (!t352))) = some r := by first | (rw [hy349]; with_reducible exact H) | (have H2_ := (Option.bind_some _ _).symm.trans H; rw [hy349]; with_reducible exact H2_) | (have H2_ := (Option.bind_some _ _).symm.trans H; with_reducible exact H2_) | with_reducible exact H | (rw [hy349]; exact H) | exact H
                        have Ny349 := Aside0.mk hy349
                        clear hy349
                        replace H := Option.bind_eq_some_iff.mp H
                        obtain ⟨t352, A370, H⟩ := H
                        replace H : (some (!t352)) = some r := H
                        have A37 := Aside0.mk A370
                        clear A370
                        obtain rfl := Option.some.inj H
                        have hcz38_0 : wc.cell? ⟨gb336, 0, none⟩ = some (.int .i64 a0_0) := (blk_cell BK336.out 0).trans rfl
                        have hcz38_1 : wc.cell? ⟨gb336, 1, none⟩ = some (.slice A0_1 l0_1.length c0_1) := (blk_cell BK336.out 1).trans rfl
                        have hcz38_2 : wc.cell? ⟨gb336, 2, none⟩ = some (.slice A0_2 l0_2.length c0_2) := (blk_cell BK336.out 2).trans rfl
                        have hfz38_0 := blk_frozen BK336.out 0
                        have hfz38_1 := blk_frozen BK336.out 1
                        have hfz38_2 := blk_frozen BK336.out 2
                        try go_wp2_with (first | ((with_reducible refine gate_callee (f := 25) rfl ?_); refine goesL_ (some 28) rfl rfl Try.func25 (by kernel_rfl) rfl #[.agg #[.int .i64 a0_0, .slice A0_1 l0_1.length c0_1, .slice A0_2 l0_2.length c0_2], .string a1] rfl (by (try simp only [List.map_toArray, List.map_cons, List.map_nil]); first | done | rfl | (simp only [List.length_drop, List.length_take]; rfl)) ?_; (with_reducible refine (eval_Match.calls kj14 a0_0 _ _ l0_1 _ _ l0_2 a1 t339 _ ?side1 ?side2 ?side3 ?side4 ?side5 A17.out).mono ?_); (case side1 => first | exact GlobOk.below HG.out (by repeat (first | (with_reducible first | exact HB.out | apply below_alloc | apply pw_below_drewN | apply below_drew1 | refine below_set ?_ GE336.out) | exact HB.out)) | (repeat (first | exact HG.out | (with_reducible refine GlobOk.alloc ?_ _) | (with_reducible refine GlobOk.drewN ?_ _) | (with_reducible refine GlobOk.drew ?_)))); (case side2 => repeat (first | exact (Kd.C_below HR0_1.out HB.out) | (with_reducible refine Kd.C_alloc ?_ _) | (with_reducible refine Kd.C_drewN ?_ _) | (with_reducible refine Kd.C_drew ?_))); (case side3 => exact HC0_1.out); (case side4 => repeat (first | exact (Kd.C_below HR0_2.out HB.out) | (with_reducible refine Kd.C_alloc ?_ _) | (with_reducible refine Kd.C_drewN ?_ _) | (with_reducible refine Kd.C_drew ?_))); (case side5 => exact HC0_2.out); rintro e w39 ⟨rfl, hb⟩; refine ⟨_, rfl, ?_⟩; have n0_ := Aside0.mk (blk_below (g := gb336) (o := .cells #[.int .i64 a0_0, .slice A0_1 l0_1.length c0_1, .slice A0_2 l0_2.length c0_2] 40 (0, 0)) (by (with_reducible repeat (first | refine blk_drewN ?_ _ | refine blk_drew ?_ | refine blk_alloc ?_ _)); exact BK336.out) hb); have n1_ := Aside0.mk (below_step (by repeat (first | (with_reducible first | exact HB.out | apply below_alloc | apply pw_below_drewN | apply below_drew1 | refine below_set ?_ GE336.out) | exact HB.out)) hb); clear BK336; clear HB; have BK336 := n0_; have HB := n1_; clear n0_ n1_; (try clear hb); (try clear hb2); (try clear hk); (try clear hi)))
                        have n0_ := Aside0.mk (blk_drew BK336.out)
                        have n1_ := Aside0.mk (below_drew1 HB.out)
                        clear BK336
                        clear HB
                        have BK336 := n0_
                        have HB := n1_
                        clear n0_ n1_
                        refine start_ (n := 7) (S := fun w' => w'.cell? ⟨gb336, 0, none⟩ = some (.int .i64 a0_0) ∧ w'.cell? ⟨gb336, 1, none⟩ = some (.slice A0_1 l0_1.length c0_1) ∧ w'.cell? ⟨gb336, 2, none⟩ = some (.slice A0_2 l0_2.length c0_2)) (ds := []) #[false, false, false, false, false, false, false] (by kernel_rfl) rfl rfl ⟨(blk_cell BK336.out 0).trans rfl, (blk_cell BK336.out 1).trans rfl, (blk_cell BK336.out 2).trans rfl⟩ (fun hHeld => ?_)
                        generalize w39.drew = w40 at BK336 HB hHeld ⊢
                        refine pure_ (i := 2) (N := some 31) (v := ?_) (a' := ?_) #[false, false, true, false, false, false, false] rfl rfl (by kernel_rfl) (fun _ _ _ h => h) (Or.inl ⟨by rfl, ?_⟩) ?_ ?_
                        rotate_left
                        · intro w'
                          go_simp
                          with_reducible rfl
                        rotate_left
                        · simp only [Act.put, List.setIfInBounds_toArray, List.set_cons_zero, List.set_cons_succ, i64_w, i32_w]
                          rfl
                        refine take_ (i := 0) (N := some 29) (v := ?_) (a' := ?_) #[true, false, true, false, false, false, false] rfl rfl (by kernel_rfl) (fun _ _ _ h => h) (Or.inl ⟨by rfl, ?_⟩) hHeld ?_ ?_
                        rotate_left
                        · rintro w' ⟨s0, s1, s2⟩
                          go_simp
                          with_reducible rfl
                        rotate_left
                        · simp only [Act.put, List.setIfInBounds_toArray, List.set_cons_zero, List.set_cons_succ, i64_w, i32_w]
                          rfl
                        refine one_ (i := 1) (N := some 30) #[true, true, true, false, false, false, false] rfl rfl (by kernel_rfl) (by decide) (fun K hK => ?_)
                        refine Kd.R_lit_step (Kd.int .u8) _ 5 ?hg (N := 30) ?hd (xs := ([] : List Int)) (inner := []) (ok := fun _ => True) (okp := fun _ => True) ?hr ?hp (fun _ hk => hk) trivial (Below.refl _ _) (Nat.le_refl _) (by simp) ?_; (case hd => rfl); (case hg => rfl); (case hr => first | (go_simp; done) | (go_simp; rfl)); (case hp => exact (Reps.none _ _))
                        intro v341 w41 ho42 hb hg_ hnew_
                        clear hg_ hnew_
                        (first | rw [← Ny340.out] at ho42 | (simp only [Int.reduceToNat] at ho42; rw [← Ny340.out] at ho42))
                        have n0_ := Aside0.mk (Kd.R_lower ho42 (below_size (by repeat (first | (with_reducible first | exact HB.out | apply below_alloc | apply pw_below_drewN | apply below_drew1 | refine below_set ?_ GE336.out) | exact HB.out))))
                        have n1_ := Aside0.mk (blk_below (g := gb336) (o := .cells #[.int .i64 a0_0, .slice A0_1 l0_1.length c0_1, .slice A0_2 l0_2.length c0_2] 40 (0, 0)) (by (with_reducible repeat (first | refine blk_drewN ?_ _ | refine blk_drew ?_ | refine blk_alloc ?_ _)); exact BK336.out) hb)
                        have n2_ := Aside0.mk (below_step (by repeat (first | (with_reducible first | exact HB.out | apply below_alloc | apply pw_below_drewN | apply below_drew1 | refine below_set ?_ GE336.out) | exact HB.out)) hb)
                        clear BK336
                        clear HB
                        have HO342 := n0_
                        have BK336 := n1_
                        have HB := n2_
                        clear n0_ n1_ n2_
                        clear hb ho42
                        refine hK.out _ _ ⟨(blk_cell BK336.out 0).trans rfl, (blk_cell BK336.out 1).trans rfl, (blk_cell BK336.out 2).trans rfl⟩ (fun hHeld => ?_)
                        clear hK K
                        refine norm_ (a' := ?_) ?_ ?_
                        rotate_left
                        · show Act.put _ (some 30) _ = _
                          simp only [Act.put, List.setIfInBounds_toArray, List.set_cons_zero, List.set_cons_succ, i64_w, i32_w]
                          rfl
                        refine one_ (i := 3) (N := some 32) #[true, true, true, true, false, false, false] rfl rfl (by kernel_rfl) (by decide) (fun K hK => ?_)
                        refine print_append_str_step (w0 := w) w.heap.size (by rfl) (.tmp 30) _ 33 9 5 rfl Try.underlying33 Try.underlying9 info5 v341 y340 a1 rfl rfl ?aO ?aB ?aS ?aL ?_
                        (case aB => exact (by repeat (first | (with_reducible first | exact HB.out | apply below_alloc | apply pw_below_drewN | apply below_drew1 | refine below_set ?_ GE336.out) | exact HB.out)))
                        (case aO => exact (Kd.own_of_R (by (with_reducible repeat (first | apply Kd.R_alloc | apply Kd.R_drewN | apply Kd.R_drew)); exact HO342.out)))
                        (case aS => exact (below_size (by repeat (first | (with_reducible first | exact HB.out | apply below_alloc | apply pw_below_drewN | apply below_drew1 | refine below_set ?_ GE336.out) | exact HB.out))))
                        (case aL => have := LMc18.out; omega)
                        intro v344 w43 ho0 hb hg
                        have ho := Kd.R_of_own (h1 := fun _ => rfl) (ok := fun _ => True) ho0 (fun _ _ => trivial)
                        clear ho0
                        have hat := True.intro
                        rw [← Ny343.out] at ho
                        change Kd.R (Kd.int .u8) 5 w43 w.heap.size (fun _ => True) v344 y343 at ho
                        have n0_ := Aside0.mk (blk_grown (g := gb336) (o := .cells #[.int .i64 a0_0, .slice A0_1 l0_1.length c0_1, .slice A0_2 l0_2.length c0_2] 40 (0, 0)) (by (with_reducible repeat (first | refine blk_drewN ?_ _ | refine blk_drew ?_ | refine blk_alloc ?_ _)); exact BK336.out) hg (Kd.R_ne HO342.out BK336.out (by decide)))
                        have n1_ := Aside0.mk (hb)
                        have n2_ := Aside0.mk (ho)
                        clear BK336
                        clear HB
                        clear HO342
                        have BK336 := n0_
                        have HB := n1_
                        have HO345 := n2_
                        clear n0_ n1_ n2_
                        clear ho hb hg hat
                        refine hK.out _ _ ⟨(blk_cell BK336.out 0).trans rfl, (blk_cell BK336.out 1).trans rfl, (blk_cell BK336.out 2).trans rfl⟩ (fun hHeld => ?_)
                        clear hK K
                        refine norm_ (a' := ?_) ?_ ?_
                        rotate_left
                        · show Act.put _ (some 32) _ = _
                          simp only [Act.put, List.setIfInBounds_toArray, List.set_cons_zero, List.set_cons_succ, i64_w, i32_w]
                          rfl
                        refine one_ (i := 4) (N := some 33) #[true, true, true, true, true, false, false] rfl rfl (by kernel_rfl) (by decide) (fun K hK => ?_)
                        have hcv44 := own_string (P := Try.prog) Try.underlying33 Try.underlying5 Try.underlying9 (Kd.own_of_R HO345.out)
                        refine value_ (w1 := ?_) (v := ?_) (by rfl) rfl ?_ ?_
                        rotate_left 2
                        · go_simp
                          constructor
                          · rfl
                          · rfl
                        clear hcv44
                        refine hK.out _ _ ⟨(blk_cell BK336.out 0).trans rfl, (blk_cell BK336.out 1).trans rfl, (blk_cell BK336.out 2).trans rfl⟩ (fun hHeld => ?_)
                        clear hK K
                        refine norm_ (a' := ?_) ?_ ?_
                        rotate_left
                        · show Act.put _ (some 33) _ = _
                          simp only [Act.put, List.setIfInBounds_toArray, List.set_cons_zero, List.set_cons_succ, i64_w, i32_w]
                          rfl
                        refine one_ (i := 5) (N := some 34) #[true, true, true, true, true, true, false] rfl rfl (by kernel_rfl) (by decide) (fun K hK => ?_)
                        refine goes_ Try.func25 (by kernel_rfl) rfl #[.agg #[.int .i64 a0_0, .slice A0_1 l0_1.length c0_1, .slice A0_2 l0_2.length c0_2], .string (strOfNums y343)] (by rfl) rfl rfl (by (try simp only [List.map_toArray, List.map_cons, List.map_nil]); first | done | rfl | (simp only [List.length_drop, List.length_take]; rfl)) ?_
                        with_reducible refine (eval_Match.calls kj14 a0_0 _ _ l0_1 _ _ l0_2 (strOfNums y343) t346 _ ?side1 ?side2 ?side3 ?side4 ?side5 A19.out).mono ?_
                        (case side1 => first | exact GlobOk.below HG.out (by repeat (first | (with_reducible first | exact HB.out | apply below_alloc | apply pw_below_drewN | apply below_drew1 | refine below_set ?_ GE336.out) | exact HB.out)) | (repeat (first | exact HG.out | (with_reducible refine GlobOk.alloc ?_ _) | (with_reducible refine GlobOk.drewN ?_ _) | (with_reducible refine GlobOk.drew ?_))))
                        (case side2 => repeat (first | exact (Kd.C_below HR0_1.out HB.out) | (with_reducible refine Kd.C_alloc ?_ _) | (with_reducible refine Kd.C_drewN ?_ _) | (with_reducible refine Kd.C_drew ?_)))
                        (case side3 => exact HC0_1.out)
                        (case side4 => repeat (first | exact (Kd.C_below HR0_2.out HB.out) | (with_reducible refine Kd.C_alloc ?_ _) | (with_reducible refine Kd.C_drewN ?_ _) | (with_reducible refine Kd.C_drew ?_)))
                        (case side5 => exact HC0_2.out)
                        rintro e w45 ⟨rfl, hb⟩
                        refine ⟨_, rfl, ?_⟩
                        have n0_ := Aside0.mk (Kd.R_below (by (with_reducible repeat (first | apply Kd.R_alloc | apply Kd.R_drewN | apply Kd.R_drew)); exact HO345.out) hb)
                        have n1_ := Aside0.mk (blk_below (g := gb336) (o := .cells #[.int .i64 a0_0, .slice A0_1 l0_1.length c0_1, .slice A0_2 l0_2.length c0_2] 40 (0, 0)) (by (with_reducible repeat (first | refine blk_drewN ?_ _ | refine blk_drew ?_ | refine blk_alloc ?_ _)); exact BK336.out) hb)
                        have n2_ := Aside0.mk (below_step (by repeat (first | (with_reducible first | exact HB.out | apply below_alloc | apply pw_below_drewN | apply below_drew1 | refine below_set ?_ GE336.out) | exact HB.out)) hb)
                        clear HO345
                        clear BK336
                        clear HB
                        have HO345 := n0_
                        have BK336 := n1_
                        have HB := n2_
                        clear n0_ n1_ n2_
                        (try clear hb)
                        (try clear hb2)
                        (try clear hk)
                        (try clear hi)
                        refine hK.out _ _ ⟨(blk_cell BK336.out 0).trans rfl, (blk_cell BK336.out 1).trans rfl, (blk_cell BK336.out 2).trans rfl⟩ (fun hHeld => ?_)
                        clear hK K
                        refine norm_ (a' := ?_) ?_ ?_
                        rotate_left
                        · show Act.put _ (some 34) _ = _
                          simp only [Act.put, List.setIfInBounds_toArray, List.set_cons_zero, List.set_cons_succ, i64_w, i32_w]
                          rfl
                        refine pure_ (i := 6) (N := some 10) (v := ?_) (a' := ?_) #[true, true, true, true, true, true, true] rfl rfl (by kernel_rfl) (fun _ _ _ h => h) (Or.inl ⟨by rfl, ?_⟩) ?_ ?_
                        rotate_left
                        · intro w'
                          go_simp
                          with_reducible rfl
                        rotate_left
                        · simp only [Act.put, List.setIfInBounds_toArray, List.set_cons_zero, List.set_cons_succ, i64_w, i32_w]
                          rfl
                        refine done_ (by kernel_rfl) ?_
                        try go_wp2_with (first | (go_at_call 25; (with_reducible refine calls_of_args (args' := #[.agg #[.int .i64 7, .slice none 0 0, .slice none 0 0], .string a1]) rfl ?_); (refine (eval_Match.calls kj14 7 _ _ ([] : List ByteArray) _ _ ([] : List (S40)) a1 true _ ?side1 ?side2 ?side3 ?side4 ?side5 A22.out).mono ?_); (case side1 => first | exact GlobOk.below HG.out (by repeat (first | (with_reducible first | exact HB.out | apply below_alloc | apply pw_below_drewN | apply below_drew1 | refine below_set ?_ GE336.out) | exact HB.out)) | (repeat (first | exact HG.out | (with_reducible refine GlobOk.alloc ?_ _) | (with_reducible refine GlobOk.drewN ?_ _) | (with_reducible refine GlobOk.drew ?_)))); (case side2 => exact Kd.C_nil _ _); (case side3 => exact Nat.le_refl _); (case side4 => exact Kd.C_nil _ _); (case side5 => exact Nat.le_refl _); rintro e w46 ⟨rfl, hb⟩; have n0_ := Aside0.mk (Kd.R_below (by (with_reducible repeat (first | apply Kd.R_alloc | apply Kd.R_drewN | apply Kd.R_drew)); exact HO345.out) hb); have n1_ := Aside0.mk (blk_below (g := gb336) (o := .cells #[.int .i64 a0_0, .slice A0_1 l0_1.length c0_1, .slice A0_2 l0_2.length c0_2] 40 (0, 0)) (by (with_reducible repeat (first | refine blk_drewN ?_ _ | refine blk_drew ?_ | refine blk_alloc ?_ _)); exact BK336.out) hb); have n2_ := Aside0.mk (below_step (by repeat (first | (with_reducible first | exact HB.out | apply below_alloc | apply pw_below_drewN | apply below_drew1 | refine below_set ?_ GE336.out) | exact HB.out)) hb); clear HO345; clear BK336; clear HB; have HO345 := n0_; have BK336 := n1_; have HB := n2_; clear n0_ n1_ n2_; (try clear hb); (try clear hb2); (try clear hk); (try clear hi)) | (go_at_call 25; (with_reducible refine calls_of_args (args' := #[.agg #[.int .i64 8, .slice none 0 0, .slice none 0 0], .string a1]) rfl ?_); (refine (eval_Match.calls kj14 8 _ _ ([] : List ByteArray) _ _ ([] : List (S40)) a1 false _ ?side1 ?side2 ?side3 ?side4 ?side5 A24.out).mono ?_); (case side1 => first | exact GlobOk.below HG.out (by repeat (first | (with_reducible first | exact HB.out | apply below_alloc | apply pw_below_drewN | apply below_drew1 | refine below_set ?_ GE336.out) | exact HB.out)) | (repeat (first | exact HG.out | (with_reducible refine GlobOk.alloc ?_ _) | (with_reducible refine GlobOk.drewN ?_ _) | (with_reducible refine GlobOk.drew ?_)))); (case side2 => exact Kd.C_nil _ _); (case side3 => exact Nat.le_refl _); (case side4 => exact Kd.C_nil _ _); (case side5 => exact Nat.le_refl _); rintro e w47 ⟨rfl, hb⟩; have n0_ := Aside0.mk (Kd.R_below (by (with_reducible repeat (first | apply Kd.R_alloc | apply Kd.R_drewN | apply Kd.R_drew)); exact HO345.out) hb); have n1_ := Aside0.mk (blk_below (g := gb336) (o := .cells #[.int .i64 a0_0, .slice A0_1 l0_1.length c0_1, .slice A0_2 l0_2.length c0_2] 40 (0, 0)) (by (with_reducible repeat (first | refine blk_drewN ?_ _ | refine blk_drew ?_ | refine blk_alloc ?_ _)); exact BK336.out) hb); have n2_ := Aside0.mk (below_step (by repeat (first | (with_reducible first | exact HB.out | apply below_alloc | apply pw_below_drewN | apply below_drew1 | refine below_set ?_ GE336.out) | exact HB.out)) hb); clear HO345; clear BK336; clear HB; have HO345 := n0_; have BK336 := n1_; have HB := n2_; clear n0_ n1_ n2_; (try clear hb); (try clear hb2); (try clear hk); (try clear hi)) | ((with_reducible refine gate_dst (N := 57) rfl ?_); (try (refine gate_guard (by rfl) ?_; dsimp only)); refine Kd.R_lit Kd.string _ 9 ?hg (N := 57) ?hd (xs := ([(⟨#[]⟩ : ByteArray)] : List ByteArray)) (inner := [.string (⟨#[]⟩ : ByteArray)]) (ok := fun _ => True) (okp := fun _ => True) ?hr ?hp (fun _ hk => hk) trivial (Below.refl _ _) (Nat.le_refl _) (by simp) ?_; (case hd => rfl); (case hg => rfl); (case hr => first | (go_simp; done) | (go_simp; rfl)); (case hp => exact (Reps.one (show Kd.M Kd.string _ _ _ (⟨#[]⟩ : ByteArray) [.string (⟨#[]⟩ : ByteArray)] from rfl) (Reps.none _ _))); intro v350 w48 ho49 hb hg_ hnew_; clear hg_ hnew_; (first | rw [← Ny349.out] at ho49 | (simp only [Int.reduceToNat] at ho49; rw [← Ny349.out] at ho49)); have n0_ := Aside0.mk (Kd.R_below (by (with_reducible repeat (first | apply Kd.R_alloc | apply Kd.R_drewN | apply Kd.R_drew)); exact HO345.out) hb); have n1_ := Aside0.mk (Kd.R_lower ho49 (below_size (by repeat (first | (with_reducible first | exact HB.out | apply below_alloc | apply pw_below_drewN | apply below_drew1 | refine below_set ?_ GE336.out) | exact HB.out)))); have n2_ := Aside0.mk (blk_below (g := gb336) (o := .cells #[.int .i64 a0_0, .slice A0_1 l0_1.length c0_1, .slice A0_2 l0_2.length c0_2] 40 (0, 0)) (by (with_reducible repeat (first | refine blk_drewN ?_ _ | refine blk_drew ?_ | refine blk_alloc ?_ _)); exact BK336.out) hb); have n3_ := Aside0.mk (below_step (by repeat (first | (with_reducible first | exact HB.out | apply below_alloc | apply pw_below_drewN | apply below_drew1 | refine below_set ?_ GE336.out) | exact HB.out)) hb); clear HO345; clear BK336; clear HB; have HO345 := n0_; have HO351 := n1_; have BK336 := n2_; have HB := n3_; clear n0_ n1_ n2_ n3_; clear hb ho49; obtain ⟨Ao50, co50, eo50⟩ := Kd.R_slice HO351.out; subst eo50) | (go_at_call 25; (with_reducible refine calls_of_args (args' := #[.agg #[.int .i64 a2, .slice Ao50 y349.length co50, .slice none 0 0], .string a1]) rfl ?_); (refine (eval_Match.calls kj14 a2 _ _ y349 _ _ ([] : List (S40)) a1 t352 _ ?side1 ?side2 ?side3 ?side4 ?side5 A37.out).mono ?_); (case side1 => first | exact GlobOk.below HG.out (by repeat (first | (with_reducible first | exact HB.out | apply below_alloc | apply pw_below_drewN | apply below_drew1 | refine below_set ?_ GE336.out) | exact HB.out)) | (repeat (first | exact HG.out | (with_reducible refine GlobOk.alloc ?_ _) | (with_reducible refine GlobOk.drewN ?_ _) | (with_reducible refine GlobOk.drew ?_)))); (case side2 => repeat (first | exact (Kd.R_reads' HO351.out).2.2 | (with_reducible refine Kd.C_alloc ?_ _) | (with_reducible refine Kd.C_drewN ?_ _) | (with_reducible refine Kd.C_drew ?_))); (case side3 => exact (Kd.R_reads' HO351.out).2.1); (case side4 => exact Kd.C_nil _ _); (case side5 => exact Nat.le_refl _); rintro e w51 ⟨rfl, hb⟩; have n0_ := Aside0.mk (Kd.R_below (by (with_reducible repeat (first | apply Kd.R_alloc | apply Kd.R_drewN | apply Kd.R_drew)); exact HO345.out) hb); have n1_ := Aside0.mk (Kd.R_below (by (with_reducible repeat (first | apply Kd.R_alloc | apply Kd.R_drewN | apply Kd.R_drew)); exact HO351.out) hb); have n2_ := Aside0.mk (blk_below (g := gb336) (o := .cells #[.int .i64 a0_0, .slice A0_1 l0_1.length c0_1, .slice A0_2 l0_2.length c0_2] 40 (0, 0)) (by (with_reducible repeat (first | refine blk_drewN ?_ _ | refine blk_drew ?_ | refine blk_alloc ?_ _)); exact BK336.out) hb); have n3_ := Aside0.mk (below_step (by repeat (first | (with_reducible first | exact HB.out | apply below_alloc | apply pw_below_drewN | apply below_drew1 | refine below_set ?_ GE336.out) | exact HB.out)) hb); clear HO345; clear HO351; clear BK336; clear HB; have HO345 := n0_; have HO351 := n1_; have BK336 := n2_; have HB := n3_; clear n0_ n1_ n2_ n3_; (try clear hb); (try clear hb2); (try clear hk); (try clear hi)))
                        go_ret
                        exact ⟨by first | rfl | (simp [errW_none, errW_some] <;> rfl) | (simp [*, errW_none, errW_some] <;> rfl), by repeat (first | (with_reducible first | exact HB.out | apply below_alloc | apply pw_below_drewN | apply below_drew1 | refine below_set ?_ GE336.out) | exact HB.out)⟩
                      · replace c36 := Bool.eq_false_iff.mpr c36
                        subst c36
                        have H1 : (some true) = some r := by rw [if_neg (show ¬ (false = true) by decide)] at H; exact H
                        clear H
                        have H := H1
                        clear H1
                        obtain rfl := Option.some.inj H
                        have hcz52_0 : wc.cell? ⟨gb336, 0, none⟩ = some (.int .i64 a0_0) := (blk_cell BK336.out 0).trans rfl
                        have hcz52_1 : wc.cell? ⟨gb336, 1, none⟩ = some (.slice A0_1 l0_1.length c0_1) := (blk_cell BK336.out 1).trans rfl
                        have hcz52_2 : wc.cell? ⟨gb336, 2, none⟩ = some (.slice A0_2 l0_2.length c0_2) := (blk_cell BK336.out 2).trans rfl
                        have hfz52_0 := blk_frozen BK336.out 0
                        have hfz52_1 := blk_frozen BK336.out 1
                        have hfz52_2 := blk_frozen BK336.out 2
                        try go_wp2_with (first | ((with_reducible refine gate_callee (f := 25) rfl ?_); refine goesL_ (some 28) rfl rfl Try.func25 (by kernel_rfl) rfl #[.agg #[.int .i64 a0_0, .slice A0_1 l0_1.length c0_1, .slice A0_2 l0_2.length c0_2], .string a1] rfl (by (try simp only [List.map_toArray, List.map_cons, List.map_nil]); first | done | rfl | (simp only [List.length_drop, List.length_take]; rfl)) ?_; (with_reducible refine (eval_Match.calls kj14 a0_0 _ _ l0_1 _ _ l0_2 a1 t339 _ ?side1 ?side2 ?side3 ?side4 ?side5 A17.out).mono ?_); (case side1 => first | exact GlobOk.below HG.out (by repeat (first | (with_reducible first | exact HB.out | apply below_alloc | apply pw_below_drewN | apply below_drew1 | refine below_set ?_ GE336.out) | exact HB.out)) | (repeat (first | exact HG.out | (with_reducible refine GlobOk.alloc ?_ _) | (with_reducible refine GlobOk.drewN ?_ _) | (with_reducible refine GlobOk.drew ?_)))); (case side2 => repeat (first | exact (Kd.C_below HR0_1.out HB.out) | (with_reducible refine Kd.C_alloc ?_ _) | (with_reducible refine Kd.C_drewN ?_ _) | (with_reducible refine Kd.C_drew ?_))); (case side3 => exact HC0_1.out); (case side4 => repeat (first | exact (Kd.C_below HR0_2.out HB.out) | (with_reducible refine Kd.C_alloc ?_ _) | (with_reducible refine Kd.C_drewN ?_ _) | (with_reducible refine Kd.C_drew ?_))); (case side5 => exact HC0_2.out); rintro e w53 ⟨rfl, hb⟩; refine ⟨_, rfl, ?_⟩; have n0_ := Aside0.mk (blk_below (g := gb336) (o := .cells #[.int .i64 a0_0, .slice A0_1 l0_1.length c0_1, .slice A0_2 l0_2.length c0_2] 40 (0, 0)) (by (with_reducible repeat (first | refine blk_drewN ?_ _ | refine blk_drew ?_ | refine blk_alloc ?_ _)); exact BK336.out) hb); have n1_ := Aside0.mk (below_step (by repeat (first | (with_reducible first | exact HB.out | apply below_alloc | apply pw_below_drewN | apply below_drew1 | refine below_set ?_ GE336.out) | exact HB.out)) hb); clear BK336; clear HB; have BK336 := n0_; have HB := n1_; clear n0_ n1_; (try clear hb); (try clear hb2); (try clear hk); (try clear hi)))
                        have n0_ := Aside0.mk (blk_drew BK336.out)
                        have n1_ := Aside0.mk (below_drew1 HB.out)
                        clear BK336
                        clear HB
                        have BK336 := n0_
                        have HB := n1_
                        clear n0_ n1_
                        refine start_ (n := 7) (S := fun w' => w'.cell? ⟨gb336, 0, none⟩ = some (.int .i64 a0_0) ∧ w'.cell? ⟨gb336, 1, none⟩ = some (.slice A0_1 l0_1.length c0_1) ∧ w'.cell? ⟨gb336, 2, none⟩ = some (.slice A0_2 l0_2.length c0_2)) (ds := []) #[false, false, false, false, false, false, false] (by kernel_rfl) rfl rfl ⟨(blk_cell BK336.out 0).trans rfl, (blk_cell BK336.out 1).trans rfl, (blk_cell BK336.out 2).trans rfl⟩ (fun hHeld => ?_)
                        generalize w53.drew = w54 at BK336 HB hHeld ⊢
                        refine pure_ (i := 2) (N := some 31) (v := ?_) (a' := ?_) #[false, false, true, false, false, false, false] rfl rfl (by kernel_rfl) (fun _ _ _ h => h) (Or.inl ⟨by rfl, ?_⟩) ?_ ?_
                        rotate_left
                        · intro w'
                          go_simp
                          with_reducible rfl
                        rotate_left
                        · simp only [Act.put, List.setIfInBounds_toArray, List.set_cons_zero, List.set_cons_succ, i64_w, i32_w]
                          rfl
                        refine take_ (i := 0) (N := some 29) (v := ?_) (a' := ?_) #[true, false, true, false, false, false, false] rfl rfl (by kernel_rfl) (fun _ _ _ h => h) (Or.inl ⟨by rfl, ?_⟩) hHeld ?_ ?_
                        rotate_left
                        · rintro w' ⟨s0, s1, s2⟩
                          go_simp
                          with_reducible rfl
                        rotate_left
                        · simp only [Act.put, List.setIfInBounds_toArray, List.set_cons_zero, List.set_cons_succ, i64_w, i32_w]
                          rfl
                        refine one_ (i := 1) (N := some 30) #[true, true, true, false, false, false, false] rfl rfl (by kernel_rfl) (by decide) (fun K hK => ?_)
                        refine Kd.R_lit_step (Kd.int .u8) _ 5 ?hg (N := 30) ?hd (xs := ([] : List Int)) (inner := []) (ok := fun _ => True) (okp := fun _ => True) ?hr ?hp (fun _ hk => hk) trivial (Below.refl _ _) (Nat.le_refl _) (by simp) ?_; (case hd => rfl); (case hg => rfl); (case hr => first | (go_simp; done) | (go_simp; rfl)); (case hp => exact (Reps.none _ _))
                        intro v341 w55 ho56 hb hg_ hnew_
                        clear hg_ hnew_
                        (first | rw [← Ny340.out] at ho56 | (simp only [Int.reduceToNat] at ho56; rw [← Ny340.out] at ho56))
                        have n0_ := Aside0.mk (Kd.R_lower ho56 (below_size (by repeat (first | (with_reducible first | exact HB.out | apply below_alloc | apply pw_below_drewN | apply below_drew1 | refine below_set ?_ GE336.out) | exact HB.out))))
                        have n1_ := Aside0.mk (blk_below (g := gb336) (o := .cells #[.int .i64 a0_0, .slice A0_1 l0_1.length c0_1, .slice A0_2 l0_2.length c0_2] 40 (0, 0)) (by (with_reducible repeat (first | refine blk_drewN ?_ _ | refine blk_drew ?_ | refine blk_alloc ?_ _)); exact BK336.out) hb)
                        have n2_ := Aside0.mk (below_step (by repeat (first | (with_reducible first | exact HB.out | apply below_alloc | apply pw_below_drewN | apply below_drew1 | refine below_set ?_ GE336.out) | exact HB.out)) hb)
                        clear BK336
                        clear HB
                        have HO342 := n0_
                        have BK336 := n1_
                        have HB := n2_
                        clear n0_ n1_ n2_
                        clear hb ho56
                        refine hK.out _ _ ⟨(blk_cell BK336.out 0).trans rfl, (blk_cell BK336.out 1).trans rfl, (blk_cell BK336.out 2).trans rfl⟩ (fun hHeld => ?_)
                        clear hK K
                        refine norm_ (a' := ?_) ?_ ?_
                        rotate_left
                        · show Act.put _ (some 30) _ = _
                          simp only [Act.put, List.setIfInBounds_toArray, List.set_cons_zero, List.set_cons_succ, i64_w, i32_w]
                          rfl
                        refine one_ (i := 3) (N := some 32) #[true, true, true, true, false, false, false] rfl rfl (by kernel_rfl) (by decide) (fun K hK => ?_)
                        refine print_append_str_step (w0 := w) w.heap.size (by rfl) (.tmp 30) _ 33 9 5 rfl Try.underlying33 Try.underlying9 info5 v341 y340 a1 rfl rfl ?aO ?aB ?aS ?aL ?_
                        (case aB => exact (by repeat (first | (with_reducible first | exact HB.out | apply below_alloc | apply pw_below_drewN | apply below_drew1 | refine below_set ?_ GE336.out) | exact HB.out)))
                        (case aO => exact (Kd.own_of_R (by (with_reducible repeat (first | apply Kd.R_alloc | apply Kd.R_drewN | apply Kd.R_drew)); exact HO342.out)))
                        (case aS => exact (below_size (by repeat (first | (with_reducible first | exact HB.out | apply below_alloc | apply pw_below_drewN | apply below_drew1 | refine below_set ?_ GE336.out) | exact HB.out))))
                        (case aL => have := LMc18.out; omega)
                        intro v344 w57 ho0 hb hg
                        have ho := Kd.R_of_own (h1 := fun _ => rfl) (ok := fun _ => True) ho0 (fun _ _ => trivial)
                        clear ho0
                        have hat := True.intro
                        rw [← Ny343.out] at ho
                        change Kd.R (Kd.int .u8) 5 w57 w.heap.size (fun _ => True) v344 y343 at ho
                        have n0_ := Aside0.mk (blk_grown (g := gb336) (o := .cells #[.int .i64 a0_0, .slice A0_1 l0_1.length c0_1, .slice A0_2 l0_2.length c0_2] 40 (0, 0)) (by (with_reducible repeat (first | refine blk_drewN ?_ _ | refine blk_drew ?_ | refine blk_alloc ?_ _)); exact BK336.out) hg (Kd.R_ne HO342.out BK336.out (by decide)))
                        have n1_ := Aside0.mk (hb)
                        have n2_ := Aside0.mk (ho)
                        clear BK336
                        clear HB
                        clear HO342
                        have BK336 := n0_
                        have HB := n1_
                        have HO345 := n2_
                        clear n0_ n1_ n2_
                        clear ho hb hg hat
                        refine hK.out _ _ ⟨(blk_cell BK336.out 0).trans rfl, (blk_cell BK336.out 1).trans rfl, (blk_cell BK336.out 2).trans rfl⟩ (fun hHeld => ?_)
                        clear hK K
                        refine norm_ (a' := ?_) ?_ ?_
                        rotate_left
                        · show Act.put _ (some 32) _ = _
                          simp only [Act.put, List.setIfInBounds_toArray, List.set_cons_zero, List.set_cons_succ, i64_w, i32_w]
                          rfl
                        refine one_ (i := 4) (N := some 33) #[true, true, true, true, true, false, false] rfl rfl (by kernel_rfl) (by decide) (fun K hK => ?_)
                        have hcv58 := own_string (P := Try.prog) Try.underlying33 Try.underlying5 Try.underlying9 (Kd.own_of_R HO345.out)
                        refine value_ (w1 := ?_) (v := ?_) (by rfl) rfl ?_ ?_
                        rotate_left 2
                        · go_simp
                          constructor
                          · rfl
                          · rfl
                        clear hcv58
                        refine hK.out _ _ ⟨(blk_cell BK336.out 0).trans rfl, (blk_cell BK336.out 1).trans rfl, (blk_cell BK336.out 2).trans rfl⟩ (fun hHeld => ?_)
                        clear hK K
                        refine norm_ (a' := ?_) ?_ ?_
                        rotate_left
                        · show Act.put _ (some 33) _ = _
                          simp only [Act.put, List.setIfInBounds_toArray, List.set_cons_zero, List.set_cons_succ, i64_w, i32_w]
                          rfl
                        refine one_ (i := 5) (N := some 34) #[true, true, true, true, true, true, false] rfl rfl (by kernel_rfl) (by decide) (fun K hK => ?_)
                        refine goes_ Try.func25 (by kernel_rfl) rfl #[.agg #[.int .i64 a0_0, .slice A0_1 l0_1.length c0_1, .slice A0_2 l0_2.length c0_2], .string (strOfNums y343)] (by rfl) rfl rfl (by (try simp only [List.map_toArray, List.map_cons, List.map_nil]); first | done | rfl | (simp only [List.length_drop, List.length_take]; rfl)) ?_
                        with_reducible refine (eval_Match.calls kj14 a0_0 _ _ l0_1 _ _ l0_2 (strOfNums y343) t346 _ ?side1 ?side2 ?side3 ?side4 ?side5 A19.out).mono ?_
                        (case side1 => first | exact GlobOk.below HG.out (by repeat (first | (with_reducible first | exact HB.out | apply below_alloc | apply pw_below_drewN | apply below_drew1 | refine below_set ?_ GE336.out) | exact HB.out)) | (repeat (first | exact HG.out | (with_reducible refine GlobOk.alloc ?_ _) | (with_reducible refine GlobOk.drewN ?_ _) | (with_reducible refine GlobOk.drew ?_))))
                        (case side2 => repeat (first | exact (Kd.C_below HR0_1.out HB.out) | (with_reducible refine Kd.C_alloc ?_ _) | (with_reducible refine Kd.C_drewN ?_ _) | (with_reducible refine Kd.C_drew ?_)))
                        (case side3 => exact HC0_1.out)
                        (case side4 => repeat (first | exact (Kd.C_below HR0_2.out HB.out) | (with_reducible refine Kd.C_alloc ?_ _) | (with_reducible refine Kd.C_drewN ?_ _) | (with_reducible refine Kd.C_drew ?_)))
                        (case side5 => exact HC0_2.out)
                        rintro e w59 ⟨rfl, hb⟩
                        refine ⟨_, rfl, ?_⟩
                        have n0_ := Aside0.mk (Kd.R_below (by (with_reducible repeat (first | apply Kd.R_alloc | apply Kd.R_drewN | apply Kd.R_drew)); exact HO345.out) hb)
                        have n1_ := Aside0.mk (blk_below (g := gb336) (o := .cells #[.int .i64 a0_0, .slice A0_1 l0_1.length c0_1, .slice A0_2 l0_2.length c0_2] 40 (0, 0)) (by (with_reducible repeat (first | refine blk_drewN ?_ _ | refine blk_drew ?_ | refine blk_alloc ?_ _)); exact BK336.out) hb)
                        have n2_ := Aside0.mk (below_step (by repeat (first | (with_reducible first | exact HB.out | apply below_alloc | apply pw_below_drewN | apply below_drew1 | refine below_set ?_ GE336.out) | exact HB.out)) hb)
                        clear HO345
                        clear BK336
                        clear HB
                        have HO345 := n0_
                        have BK336 := n1_
                        have HB := n2_
                        clear n0_ n1_ n2_
                        (try clear hb)
                        (try clear hb2)
                        (try clear hk)
                        (try clear hi)
                        refine hK.out _ _ ⟨(blk_cell BK336.out 0).trans rfl, (blk_cell BK336.out 1).trans rfl, (blk_cell BK336.out 2).trans rfl⟩ (fun hHeld => ?_)
                        clear hK K
                        refine norm_ (a' := ?_) ?_ ?_
                        rotate_left
                        · show Act.put _ (some 34) _ = _
                          simp only [Act.put, List.setIfInBounds_toArray, List.set_cons_zero, List.set_cons_succ, i64_w, i32_w]
                          rfl
                        refine pure_ (i := 6) (N := some 10) (v := ?_) (a' := ?_) #[true, true, true, true, true, true, true] rfl rfl (by kernel_rfl) (fun _ _ _ h => h) (Or.inl ⟨by rfl, ?_⟩) ?_ ?_
                        rotate_left
                        · intro w'
                          go_simp
                          with_reducible rfl
                        rotate_left
                        · simp only [Act.put, List.setIfInBounds_toArray, List.set_cons_zero, List.set_cons_succ, i64_w, i32_w]
                          rfl
                        refine done_ (by kernel_rfl) ?_
                        try go_wp2_with (first | (go_at_call 25; (with_reducible refine calls_of_args (args' := #[.agg #[.int .i64 7, .slice none 0 0, .slice none 0 0], .string a1]) rfl ?_); (refine (eval_Match.calls kj14 7 _ _ ([] : List ByteArray) _ _ ([] : List (S40)) a1 true _ ?side1 ?side2 ?side3 ?side4 ?side5 A22.out).mono ?_); (case side1 => first | exact GlobOk.below HG.out (by repeat (first | (with_reducible first | exact HB.out | apply below_alloc | apply pw_below_drewN | apply below_drew1 | refine below_set ?_ GE336.out) | exact HB.out)) | (repeat (first | exact HG.out | (with_reducible refine GlobOk.alloc ?_ _) | (with_reducible refine GlobOk.drewN ?_ _) | (with_reducible refine GlobOk.drew ?_)))); (case side2 => exact Kd.C_nil _ _); (case side3 => exact Nat.le_refl _); (case side4 => exact Kd.C_nil _ _); (case side5 => exact Nat.le_refl _); rintro e w60 ⟨rfl, hb⟩; have n0_ := Aside0.mk (Kd.R_below (by (with_reducible repeat (first | apply Kd.R_alloc | apply Kd.R_drewN | apply Kd.R_drew)); exact HO345.out) hb); have n1_ := Aside0.mk (blk_below (g := gb336) (o := .cells #[.int .i64 a0_0, .slice A0_1 l0_1.length c0_1, .slice A0_2 l0_2.length c0_2] 40 (0, 0)) (by (with_reducible repeat (first | refine blk_drewN ?_ _ | refine blk_drew ?_ | refine blk_alloc ?_ _)); exact BK336.out) hb); have n2_ := Aside0.mk (below_step (by repeat (first | (with_reducible first | exact HB.out | apply below_alloc | apply pw_below_drewN | apply below_drew1 | refine below_set ?_ GE336.out) | exact HB.out)) hb); clear HO345; clear BK336; clear HB; have HO345 := n0_; have BK336 := n1_; have HB := n2_; clear n0_ n1_ n2_; (try clear hb); (try clear hb2); (try clear hk); (try clear hi)) | (go_at_call 25; (with_reducible refine calls_of_args (args' := #[.agg #[.int .i64 8, .slice none 0 0, .slice none 0 0], .string a1]) rfl ?_); (refine (eval_Match.calls kj14 8 _ _ ([] : List ByteArray) _ _ ([] : List (S40)) a1 false _ ?side1 ?side2 ?side3 ?side4 ?side5 A24.out).mono ?_); (case side1 => first | exact GlobOk.below HG.out (by repeat (first | (with_reducible first | exact HB.out | apply below_alloc | apply pw_below_drewN | apply below_drew1 | refine below_set ?_ GE336.out) | exact HB.out)) | (repeat (first | exact HG.out | (with_reducible refine GlobOk.alloc ?_ _) | (with_reducible refine GlobOk.drewN ?_ _) | (with_reducible refine GlobOk.drew ?_)))); (case side2 => exact Kd.C_nil _ _); (case side3 => exact Nat.le_refl _); (case side4 => exact Kd.C_nil _ _); (case side5 => exact Nat.le_refl _); rintro e w61 ⟨rfl, hb⟩; have n0_ := Aside0.mk (Kd.R_below (by (with_reducible repeat (first | apply Kd.R_alloc | apply Kd.R_drewN | apply Kd.R_drew)); exact HO345.out) hb); have n1_ := Aside0.mk (blk_below (g := gb336) (o := .cells #[.int .i64 a0_0, .slice A0_1 l0_1.length c0_1, .slice A0_2 l0_2.length c0_2] 40 (0, 0)) (by (with_reducible repeat (first | refine blk_drewN ?_ _ | refine blk_drew ?_ | refine blk_alloc ?_ _)); exact BK336.out) hb); have n2_ := Aside0.mk (below_step (by repeat (first | (with_reducible first | exact HB.out | apply below_alloc | apply pw_below_drewN | apply below_drew1 | refine below_set ?_ GE336.out) | exact HB.out)) hb); clear HO345; clear BK336; clear HB; have HO345 := n0_; have BK336 := n1_; have HB := n2_; clear n0_ n1_ n2_; (try clear hb); (try clear hb2); (try clear hk); (try clear hi)))
                        go_ret
                        exact ⟨by first | rfl | (simp [errW_none, errW_some] <;> rfl) | (simp [*, errW_none, errW_some] <;> rfl), by repeat (first | (with_reducible first | exact HB.out | apply below_alloc | apply pw_below_drewN | apply below_drew1 | refine below_set ?_ GE336.out) | exact HB.out)⟩
                  · replace c23 := Bool.eq_false_iff.mpr c23
                    subst c23
                    have H1 : (some false) = some r := by rw [if_neg (show ¬ (false = true) by decide)] at H; exact H
                    clear H
                    have H := H1
                    clear H1
                    obtain rfl := Option.some.inj H
                    have hcz62_0 : wc.cell? ⟨gb336, 0, none⟩ = some (.int .i64 a0_0) := (blk_cell BK336.out 0).trans rfl
                    have hcz62_1 : wc.cell? ⟨gb336, 1, none⟩ = some (.slice A0_1 l0_1.length c0_1) := (blk_cell BK336.out 1).trans rfl
                    have hcz62_2 : wc.cell? ⟨gb336, 2, none⟩ = some (.slice A0_2 l0_2.length c0_2) := (blk_cell BK336.out 2).trans rfl
                    have hfz62_0 := blk_frozen BK336.out 0
                    have hfz62_1 := blk_frozen BK336.out 1
                    have hfz62_2 := blk_frozen BK336.out 2
                    try go_wp2_with (first | ((with_reducible refine gate_callee (f := 25) rfl ?_); refine goesL_ (some 28) rfl rfl Try.func25 (by kernel_rfl) rfl #[.agg #[.int .i64 a0_0, .slice A0_1 l0_1.length c0_1, .slice A0_2 l0_2.length c0_2], .string a1] rfl (by (try simp only [List.map_toArray, List.map_cons, List.map_nil]); first | done | rfl | (simp only [List.length_drop, List.length_take]; rfl)) ?_; (with_reducible refine (eval_Match.calls kj14 a0_0 _ _ l0_1 _ _ l0_2 a1 t339 _ ?side1 ?side2 ?side3 ?side4 ?side5 A17.out).mono ?_); (case side1 => first | exact GlobOk.below HG.out (by repeat (first | (with_reducible first | exact HB.out | apply below_alloc | apply pw_below_drewN | apply below_drew1 | refine below_set ?_ GE336.out) | exact HB.out)) | (repeat (first | exact HG.out | (with_reducible refine GlobOk.alloc ?_ _) | (with_reducible refine GlobOk.drewN ?_ _) | (with_reducible refine GlobOk.drew ?_)))); (case side2 => repeat (first | exact (Kd.C_below HR0_1.out HB.out) | (with_reducible refine Kd.C_alloc ?_ _) | (with_reducible refine Kd.C_drewN ?_ _) | (with_reducible refine Kd.C_drew ?_))); (case side3 => exact HC0_1.out); (case side4 => repeat (first | exact (Kd.C_below HR0_2.out HB.out) | (with_reducible refine Kd.C_alloc ?_ _) | (with_reducible refine Kd.C_drewN ?_ _) | (with_reducible refine Kd.C_drew ?_))); (case side5 => exact HC0_2.out); rintro e w63 ⟨rfl, hb⟩; refine ⟨_, rfl, ?_⟩; have n0_ := Aside0.mk (blk_below (g := gb336) (o := .cells #[.int .i64 a0_0, .slice A0_1 l0_1.length c0_1, .slice A0_2 l0_2.length c0_2] 40 (0, 0)) (by (with_reducible repeat (first | refine blk_drewN ?_ _ | refine blk_drew ?_ | refine blk_alloc ?_ _)); exact BK336.out) hb); have n1_ := Aside0.mk (below_step (by repeat (first | (with_reducible first | exact HB.out | apply below_alloc | apply pw_below_drewN | apply below_drew1 | refine below_set ?_ GE336.out) | exact HB.out)) hb); clear BK336; clear HB; have BK336 := n0_; have HB := n1_; clear n0_ n1_; (try clear hb); (try clear hb2); (try clear hk); (try clear hi)))
                    have n0_ := Aside0.mk (blk_drew BK336.out)
                    have n1_ := Aside0.mk (below_drew1 HB.out)
                    clear BK336
                    clear HB
                    have BK336 := n0_
                    have HB := n1_
                    clear n0_ n1_
                    refine start_ (n := 7) (S := fun w' => w'.cell? ⟨gb336, 0, none⟩ = some (.int .i64 a0_0) ∧ w'.cell? ⟨gb336, 1, none⟩ = some (.slice A0_1 l0_1.length c0_1) ∧ w'.cell? ⟨gb336, 2, none⟩ = some (.slice A0_2 l0_2.length c0_2)) (ds := []) #[false, false, false, false, false, false, false] (by kernel_rfl) rfl rfl ⟨(blk_cell BK336.out 0).trans rfl, (blk_cell BK336.out 1).trans rfl, (blk_cell BK336.out 2).trans rfl⟩ (fun hHeld => ?_)
                    generalize w63.drew = w64 at BK336 HB hHeld ⊢
                    refine pure_ (i := 2) (N := some 31) (v := ?_) (a' := ?_) #[false, false, true, false, false, false, false] rfl rfl (by kernel_rfl) (fun _ _ _ h => h) (Or.inl ⟨by rfl, ?_⟩) ?_ ?_
                    rotate_left
                    · intro w'
                      go_simp
                      with_reducible rfl
                    rotate_left
                    · simp only [Act.put, List.setIfInBounds_toArray, List.set_cons_zero, List.set_cons_succ, i64_w, i32_w]
                      rfl
                    refine take_ (i := 0) (N := some 29) (v := ?_) (a' := ?_) #[true, false, true, false, false, false, false] rfl rfl (by kernel_rfl) (fun _ _ _ h => h) (Or.inl ⟨by rfl, ?_⟩) hHeld ?_ ?_
                    rotate_left
                    · rintro w' ⟨s0, s1, s2⟩
                      go_simp
                      with_reducible rfl
                    rotate_left
                    · simp only [Act.put, List.setIfInBounds_toArray, List.set_cons_zero, List.set_cons_succ, i64_w, i32_w]
                      rfl
                    refine one_ (i := 1) (N := some 30) #[true, true, true, false, false, false, false] rfl rfl (by kernel_rfl) (by decide) (fun K hK => ?_)
                    refine Kd.R_lit_step (Kd.int .u8) _ 5 ?hg (N := 30) ?hd (xs := ([] : List Int)) (inner := []) (ok := fun _ => True) (okp := fun _ => True) ?hr ?hp (fun _ hk => hk) trivial (Below.refl _ _) (Nat.le_refl _) (by simp) ?_; (case hd => rfl); (case hg => rfl); (case hr => first | (go_simp; done) | (go_simp; rfl)); (case hp => exact (Reps.none _ _))
                    intro v341 w65 ho66 hb hg_ hnew_
                    clear hg_ hnew_
                    (first | rw [← Ny340.out] at ho66 | (simp only [Int.reduceToNat] at ho66; rw [← Ny340.out] at ho66))
                    have n0_ := Aside0.mk (Kd.R_lower ho66 (below_size (by repeat (first | (with_reducible first | exact HB.out | apply below_alloc | apply pw_below_drewN | apply below_drew1 | refine below_set ?_ GE336.out) | exact HB.out))))
                    have n1_ := Aside0.mk (blk_below (g := gb336) (o := .cells #[.int .i64 a0_0, .slice A0_1 l0_1.length c0_1, .slice A0_2 l0_2.length c0_2] 40 (0, 0)) (by (with_reducible repeat (first | refine blk_drewN ?_ _ | refine blk_drew ?_ | refine blk_alloc ?_ _)); exact BK336.out) hb)
                    have n2_ := Aside0.mk (below_step (by repeat (first | (with_reducible first | exact HB.out | apply below_alloc | apply pw_below_drewN | apply below_drew1 | refine below_set ?_ GE336.out) | exact HB.out)) hb)
                    clear BK336
                    clear HB
                    have HO342 := n0_
                    have BK336 := n1_
                    have HB := n2_
                    clear n0_ n1_ n2_
                    clear hb ho66
                    refine hK.out _ _ ⟨(blk_cell BK336.out 0).trans rfl, (blk_cell BK336.out 1).trans rfl, (blk_cell BK336.out 2).trans rfl⟩ (fun hHeld => ?_)
                    clear hK K
                    refine norm_ (a' := ?_) ?_ ?_
                    rotate_left
                    · show Act.put _ (some 30) _ = _
                      simp only [Act.put, List.setIfInBounds_toArray, List.set_cons_zero, List.set_cons_succ, i64_w, i32_w]
                      rfl
                    refine one_ (i := 3) (N := some 32) #[true, true, true, true, false, false, false] rfl rfl (by kernel_rfl) (by decide) (fun K hK => ?_)
                    refine print_append_str_step (w0 := w) w.heap.size (by rfl) (.tmp 30) _ 33 9 5 rfl Try.underlying33 Try.underlying9 info5 v341 y340 a1 rfl rfl ?aO ?aB ?aS ?aL ?_
                    (case aB => exact (by repeat (first | (with_reducible first | exact HB.out | apply below_alloc | apply pw_below_drewN | apply below_drew1 | refine below_set ?_ GE336.out) | exact HB.out)))
                    (case aO => exact (Kd.own_of_R (by (with_reducible repeat (first | apply Kd.R_alloc | apply Kd.R_drewN | apply Kd.R_drew)); exact HO342.out)))
                    (case aS => exact (below_size (by repeat (first | (with_reducible first | exact HB.out | apply below_alloc | apply pw_below_drewN | apply below_drew1 | refine below_set ?_ GE336.out) | exact HB.out))))
                    (case aL => have := LMc18.out; omega)
                    intro v344 w67 ho0 hb hg
                    have ho := Kd.R_of_own (h1 := fun _ => rfl) (ok := fun _ => True) ho0 (fun _ _ => trivial)
                    clear ho0
                    have hat := True.intro
                    rw [← Ny343.out] at ho
                    change Kd.R (Kd.int .u8) 5 w67 w.heap.size (fun _ => True) v344 y343 at ho
                    have n0_ := Aside0.mk (blk_grown (g := gb336) (o := .cells #[.int .i64 a0_0, .slice A0_1 l0_1.length c0_1, .slice A0_2 l0_2.length c0_2] 40 (0, 0)) (by (with_reducible repeat (first | refine blk_drewN ?_ _ | refine blk_drew ?_ | refine blk_alloc ?_ _)); exact BK336.out) hg (Kd.R_ne HO342.out BK336.out (by decide)))
                    have n1_ := Aside0.mk (hb)
                    have n2_ := Aside0.mk (ho)
                    clear BK336
                    clear HB
                    clear HO342
                    have BK336 := n0_
                    have HB := n1_
                    have HO345 := n2_
                    clear n0_ n1_ n2_
                    clear ho hb hg hat
                    refine hK.out _ _ ⟨(blk_cell BK336.out 0).trans rfl, (blk_cell BK336.out 1).trans rfl, (blk_cell BK336.out 2).trans rfl⟩ (fun hHeld => ?_)
                    clear hK K
                    refine norm_ (a' := ?_) ?_ ?_
                    rotate_left
                    · show Act.put _ (some 32) _ = _
                      simp only [Act.put, List.setIfInBounds_toArray, List.set_cons_zero, List.set_cons_succ, i64_w, i32_w]
                      rfl
                    refine one_ (i := 4) (N := some 33) #[true, true, true, true, true, false, false] rfl rfl (by kernel_rfl) (by decide) (fun K hK => ?_)
                    have hcv68 := own_string (P := Try.prog) Try.underlying33 Try.underlying5 Try.underlying9 (Kd.own_of_R HO345.out)
                    refine value_ (w1 := ?_) (v := ?_) (by rfl) rfl ?_ ?_
                    rotate_left 2
                    · go_simp
                      constructor
                      · rfl
                      · rfl
                    clear hcv68
                    refine hK.out _ _ ⟨(blk_cell BK336.out 0).trans rfl, (blk_cell BK336.out 1).trans rfl, (blk_cell BK336.out 2).trans rfl⟩ (fun hHeld => ?_)
                    clear hK K
                    refine norm_ (a' := ?_) ?_ ?_
                    rotate_left
                    · show Act.put _ (some 33) _ = _
                      simp only [Act.put, List.setIfInBounds_toArray, List.set_cons_zero, List.set_cons_succ, i64_w, i32_w]
                      rfl
                    refine one_ (i := 5) (N := some 34) #[true, true, true, true, true, true, false] rfl rfl (by kernel_rfl) (by decide) (fun K hK => ?_)
                    refine goes_ Try.func25 (by kernel_rfl) rfl #[.agg #[.int .i64 a0_0, .slice A0_1 l0_1.length c0_1, .slice A0_2 l0_2.length c0_2], .string (strOfNums y343)] (by rfl) rfl rfl (by (try simp only [List.map_toArray, List.map_cons, List.map_nil]); first | done | rfl | (simp only [List.length_drop, List.length_take]; rfl)) ?_
                    with_reducible refine (eval_Match.calls kj14 a0_0 _ _ l0_1 _ _ l0_2 (strOfNums y343) t346 _ ?side1 ?side2 ?side3 ?side4 ?side5 A19.out).mono ?_
                    (case side1 => first | exact GlobOk.below HG.out (by repeat (first | (with_reducible first | exact HB.out | apply below_alloc | apply pw_below_drewN | apply below_drew1 | refine below_set ?_ GE336.out) | exact HB.out)) | (repeat (first | exact HG.out | (with_reducible refine GlobOk.alloc ?_ _) | (with_reducible refine GlobOk.drewN ?_ _) | (with_reducible refine GlobOk.drew ?_))))
                    (case side2 => repeat (first | exact (Kd.C_below HR0_1.out HB.out) | (with_reducible refine Kd.C_alloc ?_ _) | (with_reducible refine Kd.C_drewN ?_ _) | (with_reducible refine Kd.C_drew ?_)))
                    (case side3 => exact HC0_1.out)
                    (case side4 => repeat (first | exact (Kd.C_below HR0_2.out HB.out) | (with_reducible refine Kd.C_alloc ?_ _) | (with_reducible refine Kd.C_drewN ?_ _) | (with_reducible refine Kd.C_drew ?_)))
                    (case side5 => exact HC0_2.out)
                    rintro e w69 ⟨rfl, hb⟩
                    refine ⟨_, rfl, ?_⟩
                    have n0_ := Aside0.mk (Kd.R_below (by (with_reducible repeat (first | apply Kd.R_alloc | apply Kd.R_drewN | apply Kd.R_drew)); exact HO345.out) hb)
                    have n1_ := Aside0.mk (blk_below (g := gb336) (o := .cells #[.int .i64 a0_0, .slice A0_1 l0_1.length c0_1, .slice A0_2 l0_2.length c0_2] 40 (0, 0)) (by (with_reducible repeat (first | refine blk_drewN ?_ _ | refine blk_drew ?_ | refine blk_alloc ?_ _)); exact BK336.out) hb)
                    have n2_ := Aside0.mk (below_step (by repeat (first | (with_reducible first | exact HB.out | apply below_alloc | apply pw_below_drewN | apply below_drew1 | refine below_set ?_ GE336.out) | exact HB.out)) hb)
                    clear HO345
                    clear BK336
                    clear HB
                    have HO345 := n0_
                    have BK336 := n1_
                    have HB := n2_
                    clear n0_ n1_ n2_
                    (try clear hb)
                    (try clear hb2)
                    (try clear hk)
                    (try clear hi)
                    refine hK.out _ _ ⟨(blk_cell BK336.out 0).trans rfl, (blk_cell BK336.out 1).trans rfl, (blk_cell BK336.out 2).trans rfl⟩ (fun hHeld => ?_)
                    clear hK K
                    refine norm_ (a' := ?_) ?_ ?_
                    rotate_left
                    · show Act.put _ (some 34) _ = _
                      simp only [Act.put, List.setIfInBounds_toArray, List.set_cons_zero, List.set_cons_succ, i64_w, i32_w]
                      rfl
                    refine pure_ (i := 6) (N := some 10) (v := ?_) (a' := ?_) #[true, true, true, true, true, true, true] rfl rfl (by kernel_rfl) (fun _ _ _ h => h) (Or.inl ⟨by rfl, ?_⟩) ?_ ?_
                    rotate_left
                    · intro w'
                      go_simp
                      with_reducible rfl
                    rotate_left
                    · simp only [Act.put, List.setIfInBounds_toArray, List.set_cons_zero, List.set_cons_succ, i64_w, i32_w]
                      rfl
                    refine done_ (by kernel_rfl) ?_
                    try go_wp2_with (first | (go_at_call 25; (with_reducible refine calls_of_args (args' := #[.agg #[.int .i64 7, .slice none 0 0, .slice none 0 0], .string a1]) rfl ?_); (refine (eval_Match.calls kj14 7 _ _ ([] : List ByteArray) _ _ ([] : List (S40)) a1 false _ ?side1 ?side2 ?side3 ?side4 ?side5 A22.out).mono ?_); (case side1 => first | exact GlobOk.below HG.out (by repeat (first | (with_reducible first | exact HB.out | apply below_alloc | apply pw_below_drewN | apply below_drew1 | refine below_set ?_ GE336.out) | exact HB.out)) | (repeat (first | exact HG.out | (with_reducible refine GlobOk.alloc ?_ _) | (with_reducible refine GlobOk.drewN ?_ _) | (with_reducible refine GlobOk.drew ?_)))); (case side2 => exact Kd.C_nil _ _); (case side3 => exact Nat.le_refl _); (case side4 => exact Kd.C_nil _ _); (case side5 => exact Nat.le_refl _); rintro e w70 ⟨rfl, hb⟩; have n0_ := Aside0.mk (Kd.R_below (by (with_reducible repeat (first | apply Kd.R_alloc | apply Kd.R_drewN | apply Kd.R_drew)); exact HO345.out) hb); have n1_ := Aside0.mk (blk_below (g := gb336) (o := .cells #[.int .i64 a0_0, .slice A0_1 l0_1.length c0_1, .slice A0_2 l0_2.length c0_2] 40 (0, 0)) (by (with_reducible repeat (first | refine blk_drewN ?_ _ | refine blk_drew ?_ | refine blk_alloc ?_ _)); exact BK336.out) hb); have n2_ := Aside0.mk (below_step (by repeat (first | (with_reducible first | exact HB.out | apply below_alloc | apply pw_below_drewN | apply below_drew1 | refine below_set ?_ GE336.out) | exact HB.out)) hb); clear HO345; clear BK336; clear HB; have HO345 := n0_; have BK336 := n1_; have HB := n2_; clear n0_ n1_ n2_; (try clear hb); (try clear hb2); (try clear hk); (try clear hi)))
                    go_ret
                    exact ⟨by first | rfl | (simp [errW_none, errW_some] <;> rfl) | (simp [*, errW_none, errW_some] <;> rfl), by repeat (first | (with_reducible first | exact HB.out | apply below_alloc | apply pw_below_drewN | apply below_drew1 | refine below_set ?_ GE336.out) | exact HB.out)⟩
                · rw [if_neg c21] at H
                  have c21b0 : (t339 == t346) = false := by simpa using c21
                  (try (have c21b1 : decide (t339 = t346) = false := by simpa using c21))
                  (try (have c21b2 : (t339 == t346) = false := by simpa using c21))
                  (try (have c21b3 : ¬ (t339 = t346) := by simpa using c21))
                  clear c21
                  obtain rfl := Option.some.inj H
                  have hcz71_0 : wc.cell? ⟨gb336, 0, none⟩ = some (.int .i64 a0_0) := (blk_cell BK336.out 0).trans rfl
                  have hcz71_1 : wc.cell? ⟨gb336, 1, none⟩ = some (.slice A0_1 l0_1.length c0_1) := (blk_cell BK336.out 1).trans rfl
                  have hcz71_2 : wc.cell? ⟨gb336, 2, none⟩ = some (.slice A0_2 l0_2.length c0_2) := (blk_cell BK336.out 2).trans rfl
                  have hfz71_0 := blk_frozen BK336.out 0
                  have hfz71_1 := blk_frozen BK336.out 1
                  have hfz71_2 := blk_frozen BK336.out 2
                  try go_wp2_with (first | ((with_reducible refine gate_callee (f := 25) rfl ?_); refine goesL_ (some 28) rfl rfl Try.func25 (by kernel_rfl) rfl #[.agg #[.int .i64 a0_0, .slice A0_1 l0_1.length c0_1, .slice A0_2 l0_2.length c0_2], .string a1] rfl (by (try simp only [List.map_toArray, List.map_cons, List.map_nil]); first | done | rfl | (simp only [List.length_drop, List.length_take]; rfl)) ?_; (with_reducible refine (eval_Match.calls kj14 a0_0 _ _ l0_1 _ _ l0_2 a1 t339 _ ?side1 ?side2 ?side3 ?side4 ?side5 A17.out).mono ?_); (case side1 => first | exact GlobOk.below HG.out (by repeat (first | (with_reducible first | exact HB.out | apply below_alloc | apply pw_below_drewN | apply below_drew1 | refine below_set ?_ GE336.out) | exact HB.out)) | (repeat (first | exact HG.out | (with_reducible refine GlobOk.alloc ?_ _) | (with_reducible refine GlobOk.drewN ?_ _) | (with_reducible refine GlobOk.drew ?_)))); (case side2 => repeat (first | exact (Kd.C_below HR0_1.out HB.out) | (with_reducible refine Kd.C_alloc ?_ _) | (with_reducible refine Kd.C_drewN ?_ _) | (with_reducible refine Kd.C_drew ?_))); (case side3 => exact HC0_1.out); (case side4 => repeat (first | exact (Kd.C_below HR0_2.out HB.out) | (with_reducible refine Kd.C_alloc ?_ _) | (with_reducible refine Kd.C_drewN ?_ _) | (with_reducible refine Kd.C_drew ?_))); (case side5 => exact HC0_2.out); rintro e w72 ⟨rfl, hb⟩; refine ⟨_, rfl, ?_⟩; have n0_ := Aside0.mk (blk_below (g := gb336) (o := .cells #[.int .i64 a0_0, .slice A0_1 l0_1.length c0_1, .slice A0_2 l0_2.length c0_2] 40 (0, 0)) (by (with_reducible repeat (first | refine blk_drewN ?_ _ | refine blk_drew ?_ | refine blk_alloc ?_ _)); exact BK336.out) hb); have n1_ := Aside0.mk (below_step (by repeat (first | (with_reducible first | exact HB.out | apply below_alloc | apply pw_below_drewN | apply below_drew1 | refine below_set ?_ GE336.out) | exact HB.out)) hb); clear BK336; clear HB; have BK336 := n0_; have HB := n1_; clear n0_ n1_; (try clear hb); (try clear hb2); (try clear hk); (try clear hi)))
                  have n0_ := Aside0.mk (blk_drew BK336.out)
                  have n1_ := Aside0.mk (below_drew1 HB.out)
                  clear BK336
                  clear HB
                  have BK336 := n0_
                  have HB := n1_
                  clear n0_ n1_
                  refine start_ (n := 7) (S := fun w' => w'.cell? ⟨gb336, 0, none⟩ = some (.int .i64 a0_0) ∧ w'.cell? ⟨gb336, 1, none⟩ = some (.slice A0_1 l0_1.length c0_1) ∧ w'.cell? ⟨gb336, 2, none⟩ = some (.slice A0_2 l0_2.length c0_2)) (ds := []) #[false, false, false, false, false, false, false] (by kernel_rfl) rfl rfl ⟨(blk_cell BK336.out 0).trans rfl, (blk_cell BK336.out 1).trans rfl, (blk_cell BK336.out 2).trans rfl⟩ (fun hHeld => ?_)
                  generalize w72.drew = w73 at BK336 HB hHeld ⊢
                  refine pure_ (i := 2) (N := some 31) (v := ?_) (a' := ?_) #[false, false, true, false, false, false, false] rfl rfl (by kernel_rfl) (fun _ _ _ h => h) (Or.inl ⟨by rfl, ?_⟩) ?_ ?_
                  rotate_left
                  · intro w'
                    go_simp
                    with_reducible rfl
                  rotate_left
                  · simp only [Act.put, List.setIfInBounds_toArray, List.set_cons_zero, List.set_cons_succ, i64_w, i32_w]
                    rfl
                  refine take_ (i := 0) (N := some 29) (v := ?_) (a' := ?_) #[true, false, true, false, false, false, false] rfl rfl (by kernel_rfl) (fun _ _ _ h => h) (Or.inl ⟨by rfl, ?_⟩) hHeld ?_ ?_
                  rotate_left
                  · rintro w' ⟨s0, s1, s2⟩
                    go_simp
                    with_reducible rfl
                  rotate_left
                  · simp only [Act.put, List.setIfInBounds_toArray, List.set_cons_zero, List.set_cons_succ, i64_w, i32_w]
                    rfl
                  refine one_ (i := 1) (N := some 30) #[true, true, true, false, false, false, false] rfl rfl (by kernel_rfl) (by decide) (fun K hK => ?_)
                  refine Kd.R_lit_step (Kd.int .u8) _ 5 ?hg (N := 30) ?hd (xs := ([] : List Int)) (inner := []) (ok := fun _ => True) (okp := fun _ => True) ?hr ?hp (fun _ hk => hk) trivial (Below.refl _ _) (Nat.le_refl _) (by simp) ?_; (case hd => rfl); (case hg => rfl); (case hr => first | (go_simp; done) | (go_simp; rfl)); (case hp => exact (Reps.none _ _))
                  intro v341 w74 ho75 hb hg_ hnew_
                  clear hg_ hnew_
                  (first | rw [← Ny340.out] at ho75 | (simp only [Int.reduceToNat] at ho75; rw [← Ny340.out] at ho75))
                  have n0_ := Aside0.mk (Kd.R_lower ho75 (below_size (by repeat (first | (with_reducible first | exact HB.out | apply below_alloc | apply pw_below_drewN | apply below_drew1 | refine below_set ?_ GE336.out) | exact HB.out))))
                  have n1_ := Aside0.mk (blk_below (g := gb336) (o := .cells #[.int .i64 a0_0, .slice A0_1 l0_1.length c0_1, .slice A0_2 l0_2.length c0_2] 40 (0, 0)) (by (with_reducible repeat (first | refine blk_drewN ?_ _ | refine blk_drew ?_ | refine blk_alloc ?_ _)); exact BK336.out) hb)
                  have n2_ := Aside0.mk (below_step (by repeat (first | (with_reducible first | exact HB.out | apply below_alloc | apply pw_below_drewN | apply below_drew1 | refine below_set ?_ GE336.out) | exact HB.out)) hb)
                  clear BK336
                  clear HB
                  have HO342 := n0_
                  have BK336 := n1_
                  have HB := n2_
                  clear n0_ n1_ n2_
                  clear hb ho75
                  refine hK.out _ _ ⟨(blk_cell BK336.out 0).trans rfl, (blk_cell BK336.out 1).trans rfl, (blk_cell BK336.out 2).trans rfl⟩ (fun hHeld => ?_)
                  clear hK K
                  refine norm_ (a' := ?_) ?_ ?_
                  rotate_left
                  · show Act.put _ (some 30) _ = _
                    simp only [Act.put, List.setIfInBounds_toArray, List.set_cons_zero, List.set_cons_succ, i64_w, i32_w]
                    rfl
                  refine one_ (i := 3) (N := some 32) #[true, true, true, true, false, false, false] rfl rfl (by kernel_rfl) (by decide) (fun K hK => ?_)
                  refine print_append_str_step (w0 := w) w.heap.size (by rfl) (.tmp 30) _ 33 9 5 rfl Try.underlying33 Try.underlying9 info5 v341 y340 a1 rfl rfl ?aO ?aB ?aS ?aL ?_
                  (case aB => exact (by repeat (first | (with_reducible first | exact HB.out | apply below_alloc | apply pw_below_drewN | apply below_drew1 | refine below_set ?_ GE336.out) | exact HB.out)))
                  (case aO => exact (Kd.own_of_R (by (with_reducible repeat (first | apply Kd.R_alloc | apply Kd.R_drewN | apply Kd.R_drew)); exact HO342.out)))
                  (case aS => exact (below_size (by repeat (first | (with_reducible first | exact HB.out | apply below_alloc | apply pw_below_drewN | apply below_drew1 | refine below_set ?_ GE336.out) | exact HB.out))))
                  (case aL => have := LMc18.out; omega)
                  intro v344 w76 ho0 hb hg
                  have ho := Kd.R_of_own (h1 := fun _ => rfl) (ok := fun _ => True) ho0 (fun _ _ => trivial)
                  clear ho0
                  have hat := True.intro
                  rw [← Ny343.out] at ho
                  change Kd.R (Kd.int .u8) 5 w76 w.heap.size (fun _ => True) v344 y343 at ho
                  have n0_ := Aside0.mk (blk_grown (g := gb336) (o := .cells #[.int .i64 a0_0, .slice A0_1 l0_1.length c0_1, .slice A0_2 l0_2.length c0_2] 40 (0, 0)) (by (with_reducible repeat (first | refine blk_drewN ?_ _ | refine blk_drew ?_ | refine blk_alloc ?_ _)); exact BK336.out) hg (Kd.R_ne HO342.out BK336.out (by decide)))
                  have n1_ := Aside0.mk (hb)
                  have n2_ := Aside0.mk (ho)
                  clear BK336
                  clear HB
                  clear HO342
                  have BK336 := n0_
                  have HB := n1_
                  have HO345 := n2_
                  clear n0_ n1_ n2_
                  clear ho hb hg hat
                  refine hK.out _ _ ⟨(blk_cell BK336.out 0).trans rfl, (blk_cell BK336.out 1).trans rfl, (blk_cell BK336.out 2).trans rfl⟩ (fun hHeld => ?_)
                  clear hK K
                  refine norm_ (a' := ?_) ?_ ?_
                  rotate_left
                  · show Act.put _ (some 32) _ = _
                    simp only [Act.put, List.setIfInBounds_toArray, List.set_cons_zero, List.set_cons_succ, i64_w, i32_w]
                    rfl
                  refine one_ (i := 4) (N := some 33) #[true, true, true, true, true, false, false] rfl rfl (by kernel_rfl) (by decide) (fun K hK => ?_)
                  have hcv77 := own_string (P := Try.prog) Try.underlying33 Try.underlying5 Try.underlying9 (Kd.own_of_R HO345.out)
                  refine value_ (w1 := ?_) (v := ?_) (by rfl) rfl ?_ ?_
                  rotate_left 2
                  · go_simp
                    constructor
                    · rfl
                    · rfl
                  clear hcv77
                  refine hK.out _ _ ⟨(blk_cell BK336.out 0).trans rfl, (blk_cell BK336.out 1).trans rfl, (blk_cell BK336.out 2).trans rfl⟩ (fun hHeld => ?_)
                  clear hK K
                  refine norm_ (a' := ?_) ?_ ?_
                  rotate_left
                  · show Act.put _ (some 33) _ = _
                    simp only [Act.put, List.setIfInBounds_toArray, List.set_cons_zero, List.set_cons_succ, i64_w, i32_w]
                    rfl
                  refine one_ (i := 5) (N := some 34) #[true, true, true, true, true, true, false] rfl rfl (by kernel_rfl) (by decide) (fun K hK => ?_)
                  refine goes_ Try.func25 (by kernel_rfl) rfl #[.agg #[.int .i64 a0_0, .slice A0_1 l0_1.length c0_1, .slice A0_2 l0_2.length c0_2], .string (strOfNums y343)] (by rfl) rfl rfl (by (try simp only [List.map_toArray, List.map_cons, List.map_nil]); first | done | rfl | (simp only [List.length_drop, List.length_take]; rfl)) ?_
                  with_reducible refine (eval_Match.calls kj14 a0_0 _ _ l0_1 _ _ l0_2 (strOfNums y343) t346 _ ?side1 ?side2 ?side3 ?side4 ?side5 A19.out).mono ?_
                  (case side1 => first | exact GlobOk.below HG.out (by repeat (first | (with_reducible first | exact HB.out | apply below_alloc | apply pw_below_drewN | apply below_drew1 | refine below_set ?_ GE336.out) | exact HB.out)) | (repeat (first | exact HG.out | (with_reducible refine GlobOk.alloc ?_ _) | (with_reducible refine GlobOk.drewN ?_ _) | (with_reducible refine GlobOk.drew ?_))))
                  (case side2 => repeat (first | exact (Kd.C_below HR0_1.out HB.out) | (with_reducible refine Kd.C_alloc ?_ _) | (with_reducible refine Kd.C_drewN ?_ _) | (with_reducible refine Kd.C_drew ?_)))
                  (case side3 => exact HC0_1.out)
                  (case side4 => repeat (first | exact (Kd.C_below HR0_2.out HB.out) | (with_reducible refine Kd.C_alloc ?_ _) | (with_reducible refine Kd.C_drewN ?_ _) | (with_reducible refine Kd.C_drew ?_)))
                  (case side5 => exact HC0_2.out)
                  rintro e w78 ⟨rfl, hb⟩
                  refine ⟨_, rfl, ?_⟩
                  have n0_ := Aside0.mk (Kd.R_below (by (with_reducible repeat (first | apply Kd.R_alloc | apply Kd.R_drewN | apply Kd.R_drew)); exact HO345.out) hb)
                  have n1_ := Aside0.mk (blk_below (g := gb336) (o := .cells #[.int .i64 a0_0, .slice A0_1 l0_1.length c0_1, .slice A0_2 l0_2.length c0_2] 40 (0, 0)) (by (with_reducible repeat (first | refine blk_drewN ?_ _ | refine blk_drew ?_ | refine blk_alloc ?_ _)); exact BK336.out) hb)
                  have n2_ := Aside0.mk (below_step (by repeat (first | (with_reducible first | exact HB.out | apply below_alloc | apply pw_below_drewN | apply below_drew1 | refine below_set ?_ GE336.out) | exact HB.out)) hb)
                  clear HO345
                  clear BK336
                  clear HB
                  have HO345 := n0_
                  have BK336 := n1_
                  have HB := n2_
                  clear n0_ n1_ n2_
                  (try clear hb)
                  (try clear hb2)
                  (try clear hk)
                  (try clear hi)
                  refine hK.out _ _ ⟨(blk_cell BK336.out 0).trans rfl, (blk_cell BK336.out 1).trans rfl, (blk_cell BK336.out 2).trans rfl⟩ (fun hHeld => ?_)
                  clear hK K
                  refine norm_ (a' := ?_) ?_ ?_
                  rotate_left
                  · show Act.put _ (some 34) _ = _
                    simp only [Act.put, List.setIfInBounds_toArray, List.set_cons_zero, List.set_cons_succ, i64_w, i32_w]
                    rfl
                  refine pure_ (i := 6) (N := some 10) (v := ?_) (a' := ?_) #[true, true, true, true, true, true, true] rfl rfl (by kernel_rfl) (fun _ _ _ h => h) (Or.inl ⟨by rfl, ?_⟩) ?_ ?_
                  rotate_left
                  · intro w'
                    go_simp
                    with_reducible rfl
                  rotate_left
                  · simp only [Act.put, List.setIfInBounds_toArray, List.set_cons_zero, List.set_cons_succ, i64_w, i32_w]
                    rfl
                  refine done_ (by kernel_rfl) ?_
                  try go_wp2
                  go_ret
                  exact ⟨by first | rfl | (simp [errW_none, errW_some] <;> rfl) | (simp [*, errW_none, errW_some] <;> rfl), by repeat (first | (with_reducible first | exact HB.out | apply below_alloc | apply pw_below_drewN | apply below_drew1 | refine below_set ?_ GE336.out) | exact HB.out)⟩
              · replace c20 := Bool.eq_false_iff.mpr c20
                subst c20
                have H1 : (some false) = some r := by rw [if_neg (show ¬ (false = true) by decide)] at H; exact H
                clear H
                have H := H1
                clear H1
                obtain rfl := Option.some.inj H
                have hcz79_0 : wc.cell? ⟨gb336, 0, none⟩ = some (.int .i64 a0_0) := (blk_cell BK336.out 0).trans rfl
                have hcz79_1 : wc.cell? ⟨gb336, 1, none⟩ = some (.slice A0_1 l0_1.length c0_1) := (blk_cell BK336.out 1).trans rfl
                have hcz79_2 : wc.cell? ⟨gb336, 2, none⟩ = some (.slice A0_2 l0_2.length c0_2) := (blk_cell BK336.out 2).trans rfl
                have hfz79_0 := blk_frozen BK336.out 0
                have hfz79_1 := blk_frozen BK336.out 1
                have hfz79_2 := blk_frozen BK336.out 2
                try go_wp2_with (first | ((with_reducible refine gate_callee (f := 25) rfl ?_); refine goesL_ (some 28) rfl rfl Try.func25 (by kernel_rfl) rfl #[.agg #[.int .i64 a0_0, .slice A0_1 l0_1.length c0_1, .slice A0_2 l0_2.length c0_2], .string a1] rfl (by (try simp only [List.map_toArray, List.map_cons, List.map_nil]); first | done | rfl | (simp only [List.length_drop, List.length_take]; rfl)) ?_; (with_reducible refine (eval_Match.calls kj14 a0_0 _ _ l0_1 _ _ l0_2 a1 t339 _ ?side1 ?side2 ?side3 ?side4 ?side5 A17.out).mono ?_); (case side1 => first | exact GlobOk.below HG.out (by repeat (first | (with_reducible first | exact HB.out | apply below_alloc | apply pw_below_drewN | apply below_drew1 | refine below_set ?_ GE336.out) | exact HB.out)) | (repeat (first | exact HG.out | (with_reducible refine GlobOk.alloc ?_ _) | (with_reducible refine GlobOk.drewN ?_ _) | (with_reducible refine GlobOk.drew ?_)))); (case side2 => repeat (first | exact (Kd.C_below HR0_1.out HB.out) | (with_reducible refine Kd.C_alloc ?_ _) | (with_reducible refine Kd.C_drewN ?_ _) | (with_reducible refine Kd.C_drew ?_))); (case side3 => exact HC0_1.out); (case side4 => repeat (first | exact (Kd.C_below HR0_2.out HB.out) | (with_reducible refine Kd.C_alloc ?_ _) | (with_reducible refine Kd.C_drewN ?_ _) | (with_reducible refine Kd.C_drew ?_))); (case side5 => exact HC0_2.out); rintro e w80 ⟨rfl, hb⟩; refine ⟨_, rfl, ?_⟩; have n0_ := Aside0.mk (blk_below (g := gb336) (o := .cells #[.int .i64 a0_0, .slice A0_1 l0_1.length c0_1, .slice A0_2 l0_2.length c0_2] 40 (0, 0)) (by (with_reducible repeat (first | refine blk_drewN ?_ _ | refine blk_drew ?_ | refine blk_alloc ?_ _)); exact BK336.out) hb); have n1_ := Aside0.mk (below_step (by repeat (first | (with_reducible first | exact HB.out | apply below_alloc | apply pw_below_drewN | apply below_drew1 | refine below_set ?_ GE336.out) | exact HB.out)) hb); clear BK336; clear HB; have BK336 := n0_; have HB := n1_; clear n0_ n1_; (try clear hb); (try clear hb2); (try clear hk); (try clear hi)))
                have n0_ := Aside0.mk (blk_drew BK336.out)
                have n1_ := Aside0.mk (below_drew1 HB.out)
                clear BK336
                clear HB
                have BK336 := n0_
                have HB := n1_
                clear n0_ n1_
                refine start_ (n := 7) (S := fun w' => w'.cell? ⟨gb336, 0, none⟩ = some (.int .i64 a0_0) ∧ w'.cell? ⟨gb336, 1, none⟩ = some (.slice A0_1 l0_1.length c0_1) ∧ w'.cell? ⟨gb336, 2, none⟩ = some (.slice A0_2 l0_2.length c0_2)) (ds := []) #[false, false, false, false, false, false, false] (by kernel_rfl) rfl rfl ⟨(blk_cell BK336.out 0).trans rfl, (blk_cell BK336.out 1).trans rfl, (blk_cell BK336.out 2).trans rfl⟩ (fun hHeld => ?_)
                generalize w80.drew = w81 at BK336 HB hHeld ⊢
                refine pure_ (i := 2) (N := some 31) (v := ?_) (a' := ?_) #[false, false, true, false, false, false, false] rfl rfl (by kernel_rfl) (fun _ _ _ h => h) (Or.inl ⟨by rfl, ?_⟩) ?_ ?_
                rotate_left
                · intro w'
                  go_simp
                  with_reducible rfl
                rotate_left
                · simp only [Act.put, List.setIfInBounds_toArray, List.set_cons_zero, List.set_cons_succ, i64_w, i32_w]
                  rfl
                refine take_ (i := 0) (N := some 29) (v := ?_) (a' := ?_) #[true, false, true, false, false, false, false] rfl rfl (by kernel_rfl) (fun _ _ _ h => h) (Or.inl ⟨by rfl, ?_⟩) hHeld ?_ ?_
                rotate_left
                · rintro w' ⟨s0, s1, s2⟩
                  go_simp
                  with_reducible rfl
                rotate_left
                · simp only [Act.put, List.setIfInBounds_toArray, List.set_cons_zero, List.set_cons_succ, i64_w, i32_w]
                  rfl
                refine one_ (i := 1) (N := some 30) #[true, true, true, false, false, false, false] rfl rfl (by kernel_rfl) (by decide) (fun K hK => ?_)
                refine Kd.R_lit_step (Kd.int .u8) _ 5 ?hg (N := 30) ?hd (xs := ([] : List Int)) (inner := []) (ok := fun _ => True) (okp := fun _ => True) ?hr ?hp (fun _ hk => hk) trivial (Below.refl _ _) (Nat.le_refl _) (by simp) ?_; (case hd => rfl); (case hg => rfl); (case hr => first | (go_simp; done) | (go_simp; rfl)); (case hp => exact (Reps.none _ _))
                intro v341 w82 ho83 hb hg_ hnew_
                clear hg_ hnew_
                (first | rw [← Ny340.out] at ho83 | (simp only [Int.reduceToNat] at ho83; rw [← Ny340.out] at ho83))
                have n0_ := Aside0.mk (Kd.R_lower ho83 (below_size (by repeat (first | (with_reducible first | exact HB.out | apply below_alloc | apply pw_below_drewN | apply below_drew1 | refine below_set ?_ GE336.out) | exact HB.out))))
                have n1_ := Aside0.mk (blk_below (g := gb336) (o := .cells #[.int .i64 a0_0, .slice A0_1 l0_1.length c0_1, .slice A0_2 l0_2.length c0_2] 40 (0, 0)) (by (with_reducible repeat (first | refine blk_drewN ?_ _ | refine blk_drew ?_ | refine blk_alloc ?_ _)); exact BK336.out) hb)
                have n2_ := Aside0.mk (below_step (by repeat (first | (with_reducible first | exact HB.out | apply below_alloc | apply pw_below_drewN | apply below_drew1 | refine below_set ?_ GE336.out) | exact HB.out)) hb)
                clear BK336
                clear HB
                have HO342 := n0_
                have BK336 := n1_
                have HB := n2_
                clear n0_ n1_ n2_
                clear hb ho83
                refine hK.out _ _ ⟨(blk_cell BK336.out 0).trans rfl, (blk_cell BK336.out 1).trans rfl, (blk_cell BK336.out 2).trans rfl⟩ (fun hHeld => ?_)
                clear hK K
                refine norm_ (a' := ?_) ?_ ?_
                rotate_left
                · show Act.put _ (some 30) _ = _
                  simp only [Act.put, List.setIfInBounds_toArray, List.set_cons_zero, List.set_cons_succ, i64_w, i32_w]
                  rfl
                refine one_ (i := 3) (N := some 32) #[true, true, true, true, false, false, false] rfl rfl (by kernel_rfl) (by decide) (fun K hK => ?_)
                refine print_append_str_step (w0 := w) w.heap.size (by rfl) (.tmp 30) _ 33 9 5 rfl Try.underlying33 Try.underlying9 info5 v341 y340 a1 rfl rfl ?aO ?aB ?aS ?aL ?_
                (case aB => exact (by repeat (first | (with_reducible first | exact HB.out | apply below_alloc | apply pw_below_drewN | apply below_drew1 | refine below_set ?_ GE336.out) | exact HB.out)))
                (case aO => exact (Kd.own_of_R (by (with_reducible repeat (first | apply Kd.R_alloc | apply Kd.R_drewN | apply Kd.R_drew)); exact HO342.out)))
                (case aS => exact (below_size (by repeat (first | (with_reducible first | exact HB.out | apply below_alloc | apply pw_below_drewN | apply below_drew1 | refine below_set ?_ GE336.out) | exact HB.out))))
                (case aL => have := LMc18.out; omega)
                intro v344 w84 ho0 hb hg
                have ho := Kd.R_of_own (h1 := fun _ => rfl) (ok := fun _ => True) ho0 (fun _ _ => trivial)
                clear ho0
                have hat := True.intro
                rw [← Ny343.out] at ho
                change Kd.R (Kd.int .u8) 5 w84 w.heap.size (fun _ => True) v344 y343 at ho
                have n0_ := Aside0.mk (blk_grown (g := gb336) (o := .cells #[.int .i64 a0_0, .slice A0_1 l0_1.length c0_1, .slice A0_2 l0_2.length c0_2] 40 (0, 0)) (by (with_reducible repeat (first | refine blk_drewN ?_ _ | refine blk_drew ?_ | refine blk_alloc ?_ _)); exact BK336.out) hg (Kd.R_ne HO342.out BK336.out (by decide)))
                have n1_ := Aside0.mk (hb)
                have n2_ := Aside0.mk (ho)
                clear BK336
                clear HB
                clear HO342
                have BK336 := n0_
                have HB := n1_
                have HO345 := n2_
                clear n0_ n1_ n2_
                clear ho hb hg hat
                refine hK.out _ _ ⟨(blk_cell BK336.out 0).trans rfl, (blk_cell BK336.out 1).trans rfl, (blk_cell BK336.out 2).trans rfl⟩ (fun hHeld => ?_)
                clear hK K
                refine norm_ (a' := ?_) ?_ ?_
                rotate_left
                · show Act.put _ (some 32) _ = _
                  simp only [Act.put, List.setIfInBounds_toArray, List.set_cons_zero, List.set_cons_succ, i64_w, i32_w]
                  rfl
                refine one_ (i := 4) (N := some 33) #[true, true, true, true, true, false, false] rfl rfl (by kernel_rfl) (by decide) (fun K hK => ?_)
                have hcv85 := own_string (P := Try.prog) Try.underlying33 Try.underlying5 Try.underlying9 (Kd.own_of_R HO345.out)
                refine value_ (w1 := ?_) (v := ?_) (by rfl) rfl ?_ ?_
                rotate_left 2
                · go_simp
                  constructor
                  · rfl
                  · rfl
                clear hcv85
                refine hK.out _ _ ⟨(blk_cell BK336.out 0).trans rfl, (blk_cell BK336.out 1).trans rfl, (blk_cell BK336.out 2).trans rfl⟩ (fun hHeld => ?_)
                clear hK K
                refine norm_ (a' := ?_) ?_ ?_
                rotate_left
                · show Act.put _ (some 33) _ = _
                  simp only [Act.put, List.setIfInBounds_toArray, List.set_cons_zero, List.set_cons_succ, i64_w, i32_w]
                  rfl
                refine one_ (i := 5) (N := some 34) #[true, true, true, true, true, true, false] rfl rfl (by kernel_rfl) (by decide) (fun K hK => ?_)
                refine goes_ Try.func25 (by kernel_rfl) rfl #[.agg #[.int .i64 a0_0, .slice A0_1 l0_1.length c0_1, .slice A0_2 l0_2.length c0_2], .string (strOfNums y343)] (by rfl) rfl rfl (by (try simp only [List.map_toArray, List.map_cons, List.map_nil]); first | done | rfl | (simp only [List.length_drop, List.length_take]; rfl)) ?_
                with_reducible refine (eval_Match.calls kj14 a0_0 _ _ l0_1 _ _ l0_2 (strOfNums y343) t346 _ ?side1 ?side2 ?side3 ?side4 ?side5 A19.out).mono ?_
                (case side1 => first | exact GlobOk.below HG.out (by repeat (first | (with_reducible first | exact HB.out | apply below_alloc | apply pw_below_drewN | apply below_drew1 | refine below_set ?_ GE336.out) | exact HB.out)) | (repeat (first | exact HG.out | (with_reducible refine GlobOk.alloc ?_ _) | (with_reducible refine GlobOk.drewN ?_ _) | (with_reducible refine GlobOk.drew ?_))))
                (case side2 => repeat (first | exact (Kd.C_below HR0_1.out HB.out) | (with_reducible refine Kd.C_alloc ?_ _) | (with_reducible refine Kd.C_drewN ?_ _) | (with_reducible refine Kd.C_drew ?_)))
                (case side3 => exact HC0_1.out)
                (case side4 => repeat (first | exact (Kd.C_below HR0_2.out HB.out) | (with_reducible refine Kd.C_alloc ?_ _) | (with_reducible refine Kd.C_drewN ?_ _) | (with_reducible refine Kd.C_drew ?_)))
                (case side5 => exact HC0_2.out)
                rintro e w86 ⟨rfl, hb⟩
                refine ⟨_, rfl, ?_⟩
                have n0_ := Aside0.mk (Kd.R_below (by (with_reducible repeat (first | apply Kd.R_alloc | apply Kd.R_drewN | apply Kd.R_drew)); exact HO345.out) hb)
                have n1_ := Aside0.mk (blk_below (g := gb336) (o := .cells #[.int .i64 a0_0, .slice A0_1 l0_1.length c0_1, .slice A0_2 l0_2.length c0_2] 40 (0, 0)) (by (with_reducible repeat (first | refine blk_drewN ?_ _ | refine blk_drew ?_ | refine blk_alloc ?_ _)); exact BK336.out) hb)
                have n2_ := Aside0.mk (below_step (by repeat (first | (with_reducible first | exact HB.out | apply below_alloc | apply pw_below_drewN | apply below_drew1 | refine below_set ?_ GE336.out) | exact HB.out)) hb)
                clear HO345
                clear BK336
                clear HB
                have HO345 := n0_
                have BK336 := n1_
                have HB := n2_
                clear n0_ n1_ n2_
                (try clear hb)
                (try clear hb2)
                (try clear hk)
                (try clear hi)
                refine hK.out _ _ ⟨(blk_cell BK336.out 0).trans rfl, (blk_cell BK336.out 1).trans rfl, (blk_cell BK336.out 2).trans rfl⟩ (fun hHeld => ?_)
                clear hK K
                refine norm_ (a' := ?_) ?_ ?_
                rotate_left
                · show Act.put _ (some 34) _ = _
                  simp only [Act.put, List.setIfInBounds_toArray, List.set_cons_zero, List.set_cons_succ, i64_w, i32_w]
                  rfl
                refine pure_ (i := 6) (N := some 10) (v := ?_) (a' := ?_) #[true, true, true, true, true, true, true] rfl rfl (by kernel_rfl) (fun _ _ _ h => h) (Or.inl ⟨by rfl, ?_⟩) ?_ ?_
                rotate_left
                · intro w'
                  go_simp
                  with_reducible rfl
                rotate_left
                · simp only [Act.put, List.setIfInBounds_toArray, List.set_cons_zero, List.set_cons_succ, i64_w, i32_w]
                  rfl
                refine done_ (by kernel_rfl) ?_
                try go_wp2
                go_ret
                exact ⟨by first | rfl | (simp [errW_none, errW_some] <;> rfl) | (simp [*, errW_none, errW_some] <;> rfl), by repeat (first | (with_reducible first | exact HB.out | apply below_alloc | apply pw_below_drewN | apply below_drew1 | refine below_set ?_ GE336.out) | exact HB.out)⟩
            · rw [if_neg c18] at H
              exact absurd H (by simp)

/-- THE ONE PURE STATEMENT of verbatimlaw20_EvalSame. -/
def verbatimlaw20_EvalSame.Pure : Prop := ∀ (x0 : S40) (a1 : ByteArray) (a2 : Int), a1.size ≤ 140737488351232 → (Lit.int .i64 a2).wf = true → Good40 x0 → ∃ k, verbatimlaw20_EvalSame.f k x0.f0 x0.f1 x0.f2 a1 a2 = some true

end Go.Proofs.Ytbbgnapepkenaaa.E
