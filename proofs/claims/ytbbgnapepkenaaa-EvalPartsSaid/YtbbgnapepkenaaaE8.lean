-- Written for this claim by a program of this session (over the kit's print tool): functions as Lean functions, their contracts, rows. Lean checks it.
import Derived.Test.YtbbgnapepkenaaaE0
import Derived.Test.YtbbgnapepkenaaaE4
namespace Go.Proofs.Ytbbgnapepkenaaa.E
open Go.RowKit Go.Proofs.YtbbgnapepkenaaaW.PrintWords Go.Proofs.YtbbgnapepkenaaaW.PrintLast Go.Proofs.YtbbgnapepkenaaaW.PrintMore
attribute [local go_sem] max2_int min2_int max_two min_two max_three min_three max_four min_four   -- for this text's walks alone
set_option linter.unusedVariables false
set_option linter.unusedSimpArgs false

/-! ### verbatimlaw20_deep: function 27 -/
mutual
def verbatimlaw20_deep.l0 : Nat → Int → Int → Int → List ByteArray → List (S40) → Option (Bool)
  | 0, _, _, _, _, _ => none
  | k + 1, x1, x5, x204000, x204001, x204002 => if x5 < (x204002.length : Int) then (if 0 ≤ x5 then ((verbatimlaw20_deep.f k ((rd_T40 x204002 x5).f0) ((rd_T40 x204002 x5).f1) ((rd_T40 x204002 x5).f2) (wrap64 (x1 - 1))).bind fun t205 => (if t205 = true then (some true) else (verbatimlaw20_deep.l0 k x1 (wrap64 (x5 + 1)) x204000 x204001 x204002))) else (none)) else (some false)
def verbatimlaw20_deep.f : Nat → Int → List ByteArray → List (S40) → Int → Option (Bool)
  | 0, _, _, _, _ => none
  | k + 1, a0_0, l0_1, l0_2, a1 => if a1 < 0 then (some true) else (verbatimlaw20_deep.l0 k a1 0 a0_0 l0_1 l0_2)
end
theorem verbatimlaw20_deep.mono_l : ∀ k, (∀ y0 y1 y2 y3, LeO (verbatimlaw20_deep.f k y0 y1 y2 y3) (verbatimlaw20_deep.f (k + 1) y0 y1 y2 y3)) ∧ (∀ y0 y1 y2 y3 y4, LeO (verbatimlaw20_deep.l0 k y0 y1 y2 y3 y4) (verbatimlaw20_deep.l0 (k + 1) y0 y1 y2 y3 y4))
  | 0 => ⟨fun _ _ _ _ r h => by simp [verbatimlaw20_deep.f] at h, fun _ _ _ _ _ r h => by simp [verbatimlaw20_deep.l0] at h⟩
  | k + 1 => by
    obtain ⟨ih0, ih1⟩ := verbatimlaw20_deep.mono_l k
    refine ⟨?_, ?_⟩
    · intro y0 y1 y2 y3
      unfold verbatimlaw20_deep.f
      repeat' first
      | (with_reducible exact ih0 _ _ _ _)
      | (with_reducible exact ih1 _ _ _ _ _)
      | (with_reducible exact LeO.refl _)
      | (with_reducible exact LeO.none _)
      | (with_reducible refine LeO.ite ?_ ?_)
      | (with_reducible refine LeO.bind ?_ (fun _ => ?_))
      | exact ih0 _ _ _ _
      | exact ih1 _ _ _ _ _
      | exact LeO.none _
      | refine LeO.ite ?_ ?_
      | refine LeO.bind ?_ (fun _ => ?_)
    · intro y0 y1 y2 y3 y4
      unfold verbatimlaw20_deep.l0
      repeat' first
      | (with_reducible exact ih0 _ _ _ _)
      | (with_reducible exact ih1 _ _ _ _ _)
      | (with_reducible exact LeO.refl _)
      | (with_reducible exact LeO.none _)
      | (with_reducible refine LeO.ite ?_ ?_)
      | (with_reducible refine LeO.bind ?_ (fun _ => ?_))
      | exact ih0 _ _ _ _
      | exact ih1 _ _ _ _ _
      | exact LeO.none _
      | refine LeO.ite ?_ ?_
      | refine LeO.bind ?_ (fun _ => ?_)
theorem verbatimlaw20_deep.mono : ∀ a0 a1 a2 a3 k, LeO (verbatimlaw20_deep.f k a0 a1 a2 a3) (verbatimlaw20_deep.f (k + 1) a0 a1 a2 a3) := by
  intro a0 a1 a2 a3 k
  obtain ⟨ih0, ih1⟩ := verbatimlaw20_deep.mono_l k
  exact ih0 a0 a1 a2 a3
set_option maxHeartbeats 8000000 in
set_option maxRecDepth 100000 in
theorem verbatimlaw20_deep.calls (k : Nat) : ∀ (a0_0 : Int) (A0_1 : Option Addr) (c0_1 : Nat) (l0_1 : List ByteArray) (A0_2 : Option Addr) (c0_2 : Nat) (l0_2 : List (S40)) (a1 : Int) (r : Bool) (w : World) (hr0_1 : Kd.C Kd.string w A0_1 l0_1.length l0_1) (hc0_1 : l0_1.length ≤ c0_1) (hr0_2 : Kd.C k40 w A0_2 l0_2.length l0_2) (hc0_2 : l0_2.length ≤ c0_2) (h : verbatimlaw20_deep.f k a0_0 l0_1 l0_2 a1 = some r),
    Calls Try.prog 27 #[.agg #[.int .i64 a0_0, .slice A0_1 l0_1.length c0_1, .slice A0_2 l0_2.length c0_2], .int .i64 a1] w fun e w' => e = .returned (.bool r) ∧ Below w.heap.size w w' := by
  induction k using Nat.strongRecOn with
  | _ k ih =>
  intro a0_0 A0_1 c0_1 l0_1 A0_2 c0_2 l0_2 a1 r w hr0_1 hc0_1 hr0_2 hc0_2 h
  cases k with
  | zero => exact absurd h (by simp [verbatimlaw20_deep.f])
  | succ k =>
  simp only [verbatimlaw20_deep.f] at h
  have hu40 := Try.underlying40
  have HR0_1 := Aside0.mk hr0_1
  have HC0_1 := Aside0.mk hc0_1
  clear hr0_1 hc0_1
  have HR0_2 := Aside0.mk hr0_2
  have HC0_2 := Aside0.mk hc0_2
  clear hr0_2 hc0_2
  have HB := Aside0.mk (Below.refl w.heap.size w)
  have H : (if a1 < 0 then (some true) else (verbatimlaw20_deep.l0 k a1 0 a0_0 l0_1 l0_2)) = some r := h
  clear h
  by_cases c3 : a1 < 0
  · rw [if_pos c3] at H
    have c3b0 : decide (a1 < 0) = true := decide_eq_true c3
    clear c3
    obtain rfl := Option.some.inj H
    go_enter Try.func27, Try.ntmps27
    go_wp2_with (first | ((with_reducible refine gate_dst (N := 2) rfl ?_); refine box_event ?hg (N := 2) ?hd (cs := #[.int .i64 a0_0, .slice A0_1 l0_1.length c0_1, .slice A0_2 l0_2.length c0_2]) (t := 40) ?hr ?_; (case hd => rfl); (case hg => rfl); (case hr => first | (go_simp; done) | (go_simp; rfl)); intro gb203 hg w4 hbox hb; have n0_ := Aside0.mk (below_step (by repeat (first | (with_reducible first | exact HB.out | apply below_alloc | apply pw_below_drewN | apply below_drew1) | exact HB.out)) hb); have n1_ := Aside0.mk (hbox); have n2_ := Aside0.mk ((by rw [hg]; exact (below_size (by repeat (first | (with_reducible first | exact HB.out | apply below_alloc | apply pw_below_drewN | apply below_drew1) | exact HB.out))) : w.heap.size ≤ gb203)); have n3_ := Aside0.mk ((by rw [hg]; exact (below_size (by repeat (first | (with_reducible first | exact HB.out | apply below_alloc | apply pw_below_drewN | apply below_drew1) | exact HB.out))) : w.heap.size ≤ gb203)); clear HB; have HB := n0_; have BK203 := n1_; have GW203 := n2_; have GE203 := n3_; clear n0_ n1_ n2_ n3_; clear hb hbox hg))
    go_ret
    exact ⟨by first | rfl | (simp [errW_none, errW_some] <;> rfl) | (simp [*, errW_none, errW_some] <;> rfl), by repeat (first | (with_reducible first | exact HB.out | apply below_alloc | apply pw_below_drewN | apply below_drew1 | refine below_set ?_ GE203.out) | exact HB.out)⟩
  · rw [if_neg c3] at H
    have c3b0 : decide (a1 < 0) = false := decide_eq_false c3
    clear c3
    have H' := Aside0.mk H
    clear H
    go_enter Try.func27, Try.ntmps27
    go_wp2_with (first | ((with_reducible refine gate_dst (N := 2) rfl ?_); refine box_event ?hg (N := 2) ?hd (cs := #[.int .i64 a0_0, .slice A0_1 l0_1.length c0_1, .slice A0_2 l0_2.length c0_2]) (t := 40) ?hr ?_; (case hd => rfl); (case hg => rfl); (case hr => first | (go_simp; done) | (go_simp; rfl)); intro gb203 hg w5 hbox hb; have n0_ := Aside0.mk (below_step (by repeat (first | (with_reducible first | exact HB.out | apply below_alloc | apply pw_below_drewN | apply below_drew1) | exact HB.out)) hb); have n1_ := Aside0.mk (hbox); have n2_ := Aside0.mk ((by rw [hg]; exact (below_size (by repeat (first | (with_reducible first | exact HB.out | apply below_alloc | apply pw_below_drewN | apply below_drew1) | exact HB.out))) : w.heap.size ≤ gb203)); have n3_ := Aside0.mk ((by rw [hg]; exact (below_size (by repeat (first | (with_reducible first | exact HB.out | apply below_alloc | apply pw_below_drewN | apply below_drew1) | exact HB.out))) : w.heap.size ≤ gb203)); clear HB; have HB := n0_; have BK203 := n1_; have GW203 := n2_; have GE203 := n3_; clear n0_ n1_ n2_ n3_; clear hb hbox hg))
    go_loopg [5] k (fun kq v5 w' => ∃ (x5_1 : Int), v5 = .int .i64 x5_1 ∧ Aside0 (verbatimlaw20_deep.l0 kq a1 x5_1 a0_0 l0_1 l0_2 = some r) ∧ Aside0 (kq ≤ k) ∧ Aside0 (w'.heap[gb203]? = some (.cells #[.int .i64 a0_0, (.slice A0_1 l0_1.length c0_1), (.slice A0_2 l0_2.length c0_2)] 40 (0, 0))) ∧ Aside0 (Below w.heap.size w w'))
    case atStart => exact ⟨(0), (by first | rfl | (simp; done) | (simp [*]; done)), H', ⟨Nat.le_refl _⟩, ⟨by (with_reducible repeat (first | refine blk_drewN ?_ _ | refine blk_drew ?_ | refine blk_alloc ?_ _)); exact BK203.out⟩, ⟨by repeat (first | (with_reducible first | exact HB.out | apply below_alloc | apply pw_below_drewN | apply below_drew1 | refine below_set ?_ GE203.out) | exact HB.out)⟩⟩
    case round =>
      clear H'
      try clear c2
      try clear p2
      try clear c3
      try clear c3b0
      obtain ⟨x5_1, rfl, HA, HK1, BK203, HB⟩ := hrel
      cases gk with
      | zero => exact absurd HA.out (by simp [verbatimlaw20_deep.l0])
      | succ k1 =>
        have H := HA.out
        clear HA
        simp only [verbatimlaw20_deep.l0] at H
        by_cases c6 : x5_1 < (l0_2.length : Int)
        · rw [if_pos c6] at H
          have c6b0 : decide (x5_1 < (l0_2.length : Int)) = true := decide_eq_true c6
          clear c6
          by_cases c7 : 0 ≤ x5_1
          · rw [if_pos c7] at H
            have c7b0 : decide (0 ≤ x5_1) = true := decide_eq_true c7
            clear c7
            replace H := Option.bind_eq_some_iff.mp H
            obtain ⟨t205, A80, H⟩ := H
            replace H : (if t205 = true then (some true) else (verbatimlaw20_deep.l0 k1 a1 (wrap64 (x5_1 + 1)) a0_0 l0_1 l0_2)) = some r := H
            have A8 := Aside0.mk A80
            clear A80
            by_cases c9 : t205 = true
            · subst c9
              have H1 : (some true) = some r := by rw [if_pos rfl] at H; exact H
              clear H
              have H := H1
              clear H1
              obtain rfl := Option.some.inj H
              have hcz10_0 : wr.cell? ⟨gb203, 0, none⟩ = some (.int .i64 a0_0) := (blk_cell BK203.out 0).trans rfl
              have hcz10_1 : wr.cell? ⟨gb203, 1, none⟩ = some (.slice A0_1 l0_1.length c0_1) := (blk_cell BK203.out 1).trans rfl
              have hcz10_2 : wr.cell? ⟨gb203, 2, none⟩ = some (.slice A0_2 l0_2.length c0_2) := (blk_cell BK203.out 2).trans rfl
              have hfz10_0 := blk_frozen BK203.out 0
              have hfz10_1 := blk_frozen BK203.out 1
              have hfz10_2 := blk_frozen BK203.out 2
              have p204 : 0 ≤ (x5_1 : Int) := of_decide_eq_true (by first | (with_reducible assumption) | assumption)
              have q204 : x5_1 < (l0_2.length : Int) := of_decide_eq_true (by first | (with_reducible assumption) | assumption)
              obtain ⟨ad204, A204_1, c204_1, A204_2, c204_2, e204, hx204_0, hx204_1, hx204_2, hl204_1, hi204_1, hl204_2, hi204_2⟩ := at_T40 HR0_2.out x5_1 p204 q204
              cases e204
              replace hx204_0 := (HB.out.cell (World.block_lt_of_cell? w _ hx204_0)).trans hx204_0
              replace hx204_1 := (HB.out.cell (World.block_lt_of_cell? w _ hx204_1)).trans hx204_1
              replace hx204_2 := (HB.out.cell (World.block_lt_of_cell? w _ hx204_2)).trans hx204_2
              have HR204_1 := Aside0.mk hi204_1
              have HC204_1 := Aside0.mk hl204_1
              clear hi204_1 hl204_1
              have HR204_2 := Aside0.mk hi204_2
              have HC204_2 := Aside0.mk hl204_2
              clear hi204_2 hl204_2
              replace p204 := eq_true p204
              replace q204 := eq_true q204
              go_wp2_with (first | ((with_reducible refine gate_callee (f := 27) rfl ?_); refine goesL_ (some 22) rfl rfl Try.func27 (by kernel_rfl) rfl #[.agg #[.int .i64 ((rd_T40 l0_2 x5_1).f0), .slice A204_1 ((rd_T40 l0_2 x5_1).f1).length c204_1, .slice A204_2 ((rd_T40 l0_2 x5_1).f2).length c204_2], .int .i64 (wrap64 (a1 - 1))] rfl (by (try simp only [List.map_toArray, List.map_cons, List.map_nil]); first | done | rfl | (simp only [List.length_drop, List.length_take]; rfl)) ?_; (with_reducible refine (ih k1 (by have := HK1.out; omega) ((rd_T40 l0_2 x5_1).f0) _ _ ((rd_T40 l0_2 x5_1).f1) _ _ ((rd_T40 l0_2 x5_1).f2) (wrap64 (a1 - 1)) true _ ?side1 ?side2 ?side3 ?side4 A8.out).mono ?_); (case side1 => repeat (first | exact (Kd.C_below HR204_1.out HB.out) | (with_reducible refine Kd.C_alloc ?_ _) | (with_reducible refine Kd.C_drewN ?_ _) | (with_reducible refine Kd.C_drew ?_))); (case side2 => exact HC204_1.out); (case side3 => repeat (first | exact (Kd.C_below HR204_2.out HB.out) | (with_reducible refine Kd.C_alloc ?_ _) | (with_reducible refine Kd.C_drewN ?_ _) | (with_reducible refine Kd.C_drew ?_))); (case side4 => exact HC204_2.out); rintro e w11 ⟨rfl, hb⟩; refine ⟨_, rfl, ?_⟩; have n0_ := Aside0.mk (blk_below (g := gb203) (o := .cells #[.int .i64 a0_0, .slice A0_1 l0_1.length c0_1, .slice (some ad204) l0_2.length c0_2] 40 (0, 0)) (by (with_reducible repeat (first | refine blk_drewN ?_ _ | refine blk_drew ?_ | refine blk_alloc ?_ _)); exact BK203.out) hb); have n1_ := Aside0.mk (below_step (by repeat (first | (with_reducible first | exact HB.out | apply below_alloc | apply pw_below_drewN | apply below_drew1 | refine below_set ?_ GE203.out) | exact HB.out)) hb); clear BK203; clear HB; have BK203 := n0_; have HB := n1_; clear n0_ n1_; (try clear hb); (try clear hb2); (try clear hk); (try clear hi)))
              go_ret
              exact ⟨by first | rfl | (simp [errW_none, errW_some] <;> rfl) | (simp [*, errW_none, errW_some] <;> rfl), by repeat (first | (with_reducible first | exact HB.out | apply below_alloc | apply pw_below_drewN | apply below_drew1 | refine below_set ?_ GE203.out) | exact HB.out)⟩
            · replace c9 := Bool.eq_false_iff.mpr c9
              subst c9
              have H1 : (verbatimlaw20_deep.l0 k1 a1 (wrap64 (x5_1 + 1)) a0_0 l0_1 l0_2) = some r := by rw [if_neg (show ¬ (false = true) by decide)] at H; exact H
              clear H
              have H := H1
              clear H1
              have H' := Aside0.mk H
              clear H
              have hcz12_0 : wr.cell? ⟨gb203, 0, none⟩ = some (.int .i64 a0_0) := (blk_cell BK203.out 0).trans rfl
              have hcz12_1 : wr.cell? ⟨gb203, 1, none⟩ = some (.slice A0_1 l0_1.length c0_1) := (blk_cell BK203.out 1).trans rfl
              have hcz12_2 : wr.cell? ⟨gb203, 2, none⟩ = some (.slice A0_2 l0_2.length c0_2) := (blk_cell BK203.out 2).trans rfl
              have hfz12_0 := blk_frozen BK203.out 0
              have hfz12_1 := blk_frozen BK203.out 1
              have hfz12_2 := blk_frozen BK203.out 2
              have p204 : 0 ≤ (x5_1 : Int) := of_decide_eq_true (by first | (with_reducible assumption) | assumption)
              have q204 : x5_1 < (l0_2.length : Int) := of_decide_eq_true (by first | (with_reducible assumption) | assumption)
              obtain ⟨ad204, A204_1, c204_1, A204_2, c204_2, e204, hx204_0, hx204_1, hx204_2, hl204_1, hi204_1, hl204_2, hi204_2⟩ := at_T40 HR0_2.out x5_1 p204 q204
              cases e204
              replace hx204_0 := (HB.out.cell (World.block_lt_of_cell? w _ hx204_0)).trans hx204_0
              replace hx204_1 := (HB.out.cell (World.block_lt_of_cell? w _ hx204_1)).trans hx204_1
              replace hx204_2 := (HB.out.cell (World.block_lt_of_cell? w _ hx204_2)).trans hx204_2
              have HR204_1 := Aside0.mk hi204_1
              have HC204_1 := Aside0.mk hl204_1
              clear hi204_1 hl204_1
              have HR204_2 := Aside0.mk hi204_2
              have HC204_2 := Aside0.mk hl204_2
              clear hi204_2 hl204_2
              replace p204 := eq_true p204
              replace q204 := eq_true q204
              go_wp2_with (first | ((with_reducible refine gate_callee (f := 27) rfl ?_); refine goesL_ (some 22) rfl rfl Try.func27 (by kernel_rfl) rfl #[.agg #[.int .i64 ((rd_T40 l0_2 x5_1).f0), .slice A204_1 ((rd_T40 l0_2 x5_1).f1).length c204_1, .slice A204_2 ((rd_T40 l0_2 x5_1).f2).length c204_2], .int .i64 (wrap64 (a1 - 1))] rfl (by (try simp only [List.map_toArray, List.map_cons, List.map_nil]); first | done | rfl | (simp only [List.length_drop, List.length_take]; rfl)) ?_; (with_reducible refine (ih k1 (by have := HK1.out; omega) ((rd_T40 l0_2 x5_1).f0) _ _ ((rd_T40 l0_2 x5_1).f1) _ _ ((rd_T40 l0_2 x5_1).f2) (wrap64 (a1 - 1)) false _ ?side1 ?side2 ?side3 ?side4 A8.out).mono ?_); (case side1 => repeat (first | exact (Kd.C_below HR204_1.out HB.out) | (with_reducible refine Kd.C_alloc ?_ _) | (with_reducible refine Kd.C_drewN ?_ _) | (with_reducible refine Kd.C_drew ?_))); (case side2 => exact HC204_1.out); (case side3 => repeat (first | exact (Kd.C_below HR204_2.out HB.out) | (with_reducible refine Kd.C_alloc ?_ _) | (with_reducible refine Kd.C_drewN ?_ _) | (with_reducible refine Kd.C_drew ?_))); (case side4 => exact HC204_2.out); rintro e w13 ⟨rfl, hb⟩; refine ⟨_, rfl, ?_⟩; have n0_ := Aside0.mk (blk_below (g := gb203) (o := .cells #[.int .i64 a0_0, .slice A0_1 l0_1.length c0_1, .slice (some ad204) l0_2.length c0_2] 40 (0, 0)) (by (with_reducible repeat (first | refine blk_drewN ?_ _ | refine blk_drew ?_ | refine blk_alloc ?_ _)); exact BK203.out) hb); have n1_ := Aside0.mk (below_step (by repeat (first | (with_reducible first | exact HB.out | apply below_alloc | apply pw_below_drewN | apply below_drew1 | refine below_set ?_ GE203.out) | exact HB.out)) hb); clear BK203; clear HB; have BK203 := n0_; have HB := n1_; clear n0_ n1_; (try clear hb); (try clear hb2); (try clear hk); (try clear hi)))
              go_roundg k1
              case measure => have := HK1.out; omega
              case rel => exact ⟨(wrap64 (x5_1 + 1)), (by first | rfl | (simp; done) | (simp [*]; done)), H', ⟨by have := HK1.out; omega⟩, ⟨by (with_reducible repeat (first | refine blk_drewN ?_ _ | refine blk_drew ?_ | refine blk_alloc ?_ _)); exact BK203.out⟩, ⟨by repeat (first | (with_reducible first | exact HB.out | apply below_alloc | apply pw_below_drewN | apply below_drew1 | refine below_set ?_ GE203.out) | exact HB.out)⟩⟩
          · rw [if_neg c7] at H
            exact absurd H (by simp)
        · rw [if_neg c6] at H
          have c6b0 : decide (x5_1 < (l0_2.length : Int)) = false := decide_eq_false c6
          clear c6
          obtain rfl := Option.some.inj H
          have hcz14_0 : wr.cell? ⟨gb203, 0, none⟩ = some (.int .i64 a0_0) := (blk_cell BK203.out 0).trans rfl
          have hcz14_1 : wr.cell? ⟨gb203, 1, none⟩ = some (.slice A0_1 l0_1.length c0_1) := (blk_cell BK203.out 1).trans rfl
          have hcz14_2 : wr.cell? ⟨gb203, 2, none⟩ = some (.slice A0_2 l0_2.length c0_2) := (blk_cell BK203.out 2).trans rfl
          have hfz14_0 := blk_frozen BK203.out 0
          have hfz14_1 := blk_frozen BK203.out 1
          have hfz14_2 := blk_frozen BK203.out 2
          go_wp2
          go_ret
          exact ⟨by first | rfl | (simp [errW_none, errW_some] <;> rfl) | (simp [*, errW_none, errW_some] <;> rfl), by repeat (first | (with_reducible first | exact HB.out | apply below_alloc | apply pw_below_drewN | apply below_drew1 | refine below_set ?_ GE203.out) | exact HB.out)⟩

/-! ### verbatimlaw20_no: function 28 -/
def verbatimlaw20_no.f (a0_0 : Int) (l0_1 : List ByteArray) (l0_2 : List (S40)) : Option (Int × List ByteArray × (List (S40))) := some (6, ([] : List ByteArray), (([(⟨a0_0, l0_1, l0_2⟩ : S40)] : List (S40))))
set_option maxHeartbeats 8000000 in
set_option maxRecDepth 100000 in
theorem verbatimlaw20_no.calls (a0_0 : Int) (P0_1_ : Nat → Prop) (A0_1 : Option Addr) (c0_1 : Nat) (l0_1 : List ByteArray) (P0_2_ : Nat → Prop) (A0_2 : Option Addr) (c0_2 : Nat) (l0_2 : List (S40)) (r1 : Int) (r2 : List ByteArray) (r3 : List (S40)) (w : World) (hs0_1 : Kd.V Kd.string 9 w w.heap.size (fun k_ => P0_1_ k_) (.slice A0_1 l0_1.length c0_1) l0_1) (hs0_2 : Kd.V k40 40 w w.heap.size (fun k_ => P0_2_ k_) (.slice A0_2 l0_2.length c0_2) l0_2) (h : verbatimlaw20_no.f a0_0 l0_1 l0_2 = some (r1, r2, r3)) :
    Calls Try.prog 28 #[.agg #[.int .i64 a0_0, .slice A0_1 l0_1.length c0_1, .slice A0_2 l0_2.length c0_2]] w fun e w' => ∃ v1_ v2_ : Value, e = .returned (.agg #[.int .i64 r1, v1_, v2_]) ∧ Kd.R Kd.string 9 w' w.heap.size (fun k_ => (w.heap.size ≤ k_)) v1_ r2 ∧ Kd.N k40 40 w' w.heap.size (fun k_ => ((P0_1_ k_ ∨ P0_2_ k_) ∨ w.heap.size ≤ k_) ∧ some k_ ≠ (v1_ : Value).ownBlock) v2_ r3 ∧ Below w.heap.size w w' := by
  have hu40 := Try.underlying40
  have HO0_1 := Aside0.mk (show Kd.V Kd.string 9 w w.heap.size (fun k_ => ((P0_1_ k_ ∨ P0_2_ k_) ∨ w.heap.size ≤ k_)) (.slice A0_1 l0_1.length c0_1) l0_1 from Kd.V_mono hs0_1 (fun k_ hk => .inl (.inl hk)))
  have HO0_2 := Aside0.mk (show Kd.V k40 40 w w.heap.size (fun k_ => ((P0_1_ k_ ∨ P0_2_ k_) ∨ w.heap.size ≤ k_)) (.slice A0_2 l0_2.length c0_2) l0_2 from Kd.V_mono hs0_2 (fun k_ hk => .inl (.inr hk)))
  have HB := Aside0.mk (Below.refl w.heap.size w)
  have H : (some (6, ([] : List ByteArray), (([(⟨a0_0, l0_1, l0_2⟩ : S40)] : List (S40))))) = some (r1, r2, r3) := h
  clear h
  obtain ⟨y208, hy208⟩ : ∃ y_ : List (S40), y_ = (([(⟨a0_0, l0_1, l0_2⟩ : S40)] : List (S40))) := ⟨_, rfl⟩
  replace H : (some (6, ([] : List ByteArray), y208)) = some (r1, r2, r3) := by first | (rw [hy208]; with_reducible exact H) | (have H2_ := (Option.bind_some _ _).symm.trans H; rw [hy208]; with_reducible exact H2_) | (have H2_ := (Option.bind_some _ _).symm.trans H; with_reducible exact H2_) | with_reducible exact H | (rw [hy208]; exact H) | exact H
  have Ny208 := Aside0.mk hy208
  clear hy208
  simp only [Option.some.injEq, Prod.mk.injEq] at H
  obtain ⟨rfl, rfl, rfl⟩ := H
  go_enter Try.func28, Try.ntmps28
  go_wp2_with (first | ((with_reducible refine gate_dst (N := 1) rfl ?_); refine box_event ?hg (N := 1) ?hd (cs := #[.int .i64 a0_0, .slice A0_1 l0_1.length c0_1, .slice A0_2 l0_2.length c0_2]) (t := 40) ?hr ?_; (case hd => rfl); (case hg => rfl); (case hr => first | (go_simp; done) | (go_simp; rfl)); intro gb206 hg w2 hbox hb; have n0_ := Aside0.mk (Kd.V_below (Kd.V_elderB (by (with_reducible repeat (first | apply Kd.V_alloc | apply Kd.V_drewN | apply Kd.V_drew)); exact HO0_1.out) gb206 (Nat.le_of_eq hg.symm)) hb); have n1_ := Aside0.mk (Kd.V_below (Kd.V_elderB (by (with_reducible repeat (first | apply Kd.V_alloc | apply Kd.V_drewN | apply Kd.V_drew)); exact HO0_2.out) gb206 (Nat.le_of_eq hg.symm)) hb); have n2_ := Aside0.mk (below_step (by repeat (first | (with_reducible first | exact HB.out | apply below_alloc | apply pw_below_drewN | apply below_drew1) | exact HB.out)) hb); have n3_ := Aside0.mk (hbox); have n4_ := Aside0.mk ((by rw [hg]; exact (below_size (by repeat (first | (with_reducible first | exact HB.out | apply below_alloc | apply pw_below_drewN | apply below_drew1) | exact HB.out))) : w.heap.size ≤ gb206)); have n5_ := Aside0.mk ((by rw [hg]; exact (below_size (by repeat (first | (with_reducible first | exact HB.out | apply below_alloc | apply pw_below_drewN | apply below_drew1) | exact HB.out))) : w.heap.size ≤ gb206)); clear HO0_1; clear HO0_2; clear HB; have HO0_1 := n0_; have HO0_2 := n1_; have HB := n2_; have BK206 := n3_; have GW206 := n4_; have GE206 := n5_; clear n0_ n1_ n2_ n3_ n4_ n5_; clear hb hbox hg) | ((with_reducible refine gate_dst (N := 2) rfl ?_); refine box_event ?hg (N := 2) ?hd (cs := #[.int .i64 0, .slice none 0 0, .slice none 0 0]) (t := 40) ?hr ?_; (case hd => rfl); (case hg => rfl); (case hr => first | (go_simp; done) | (go_simp; rfl)); intro gb207 hg w3 hbox hb; have n0_ := Aside0.mk (Kd.V_below (Kd.V_elderB (by (with_reducible repeat (first | apply Kd.V_alloc | apply Kd.V_drewN | apply Kd.V_drew)); exact HO0_1.out) gb207 (Nat.le_of_eq hg.symm)) hb); have n1_ := Aside0.mk (Kd.V_below (Kd.V_elderB (by (with_reducible repeat (first | apply Kd.V_alloc | apply Kd.V_drewN | apply Kd.V_drew)); exact HO0_2.out) gb207 (Nat.le_of_eq hg.symm)) hb); have n2_ := Aside0.mk (blk_below (g := gb206) (o := .cells #[.int .i64 a0_0, .slice A0_1 l0_1.length c0_1, .slice A0_2 l0_2.length c0_2] 40 (0, 0)) (by (with_reducible repeat (first | refine blk_drewN ?_ _ | refine blk_drew ?_ | refine blk_alloc ?_ _)); exact BK206.out) hb); have n3_ := Aside0.mk (below_step (by repeat (first | (with_reducible first | exact HB.out | apply below_alloc | apply pw_below_drewN | apply below_drew1 | refine below_set ?_ GE206.out) | exact HB.out)) hb); have n4_ := Aside0.mk (hbox); have n5_ := Aside0.mk ((by rw [hg]; exact (below_size (by repeat (first | (with_reducible first | exact HB.out | apply below_alloc | apply pw_below_drewN | apply below_drew1 | refine below_set ?_ GE206.out) | exact HB.out))) : w.heap.size ≤ gb207)); have n6_ := Aside0.mk ((by rw [hg]; exact (below_size (by repeat (first | (with_reducible first | exact HB.out | apply below_alloc | apply pw_below_drewN | apply below_drew1 | refine below_set ?_ GE206.out) | exact HB.out))) : w.heap.size ≤ gb207)); have n7_ := Aside0.mk ((by rw [hg]; exact Nat.ne_of_lt (blk_lt (g := gb206) (o := .cells #[.int .i64 a0_0, .slice A0_1 l0_1.length c0_1, .slice A0_2 l0_2.length c0_2] 40 (0, 0)) (by (with_reducible repeat (first | refine blk_drewN ?_ _ | refine blk_drew ?_ | refine blk_alloc ?_ _)); exact BK206.out)) : gb206 ≠ gb207)); have n8_ := Aside0.mk ((by rw [hg]; exact Nat.ne_of_gt (blk_lt (g := gb206) (o := .cells #[.int .i64 a0_0, .slice A0_1 l0_1.length c0_1, .slice A0_2 l0_2.length c0_2] 40 (0, 0)) (by (with_reducible repeat (first | refine blk_drewN ?_ _ | refine blk_drew ?_ | refine blk_alloc ?_ _)); exact BK206.out)) : gb207 ≠ gb206)); clear HO0_1; clear HO0_2; clear BK206; clear HB; have HO0_1 := n0_; have HO0_2 := n1_; have BK206 := n2_; have HB := n3_; have BK207 := n4_; have GW207 := n5_; have GE207 := n6_; have NB206_207 := n7_; have NB207_206 := n8_; clear n0_ n1_ n2_ n3_ n4_ n5_ n6_ n7_ n8_; clear hb hbox hg; have hnb4 := NB206_207.out; have hnc4 := NB207_206.out; have hcz5_0 : w3.cell? ⟨gb206, 0, none⟩ = some (.int .i64 a0_0) := (blk_cell BK206.out 0).trans rfl; have hcz5_1 : w3.cell? ⟨gb206, 1, none⟩ = some (.slice A0_1 l0_1.length c0_1) := (blk_cell BK206.out 1).trans rfl; have hcz5_2 : w3.cell? ⟨gb206, 2, none⟩ = some (.slice A0_2 l0_2.length c0_2) := (blk_cell BK206.out 2).trans rfl; have hfz5_0 := blk_frozen BK206.out 0; have hfz5_1 := blk_frozen BK206.out 1; have hfz5_2 := blk_frozen BK206.out 2) | ((with_reducible refine gate_dst (N := 4) rfl ?_); refine Kd.N_lit k40 _ 40 ?hg (N' := 4) ?hd (xs := ([(⟨a0_0, l0_1, l0_2⟩ : S40)] : List (S40))) (inner := [.int .i64 a0_0, .slice A0_1 l0_1.length c0_1, .slice A0_2 l0_2.length c0_2]) (ok := (fun k_ => ((P0_1_ k_ ∨ P0_2_ k_) ∨ w.heap.size ≤ k_) ∧ k_ ≠ gb206 ∧ k_ ≠ gb207)) (okp := (fun k_ => ((P0_1_ k_ ∨ P0_2_ k_) ∨ w.heap.size ≤ k_) ∧ k_ ≠ gb206 ∧ k_ ≠ gb207)) ?hr ?hp (fun _ hk => hk) ((show ∀ k_, w3.heap.size ≤ k_ → (fun k_ => ((P0_1_ k_ ∨ P0_2_ k_) ∨ w.heap.size ≤ k_) ∧ k_ ≠ gb206 ∧ k_ ≠ gb207) k_ from fun k_ hk => ⟨(.inr (Nat.le_trans (below_size (by repeat (first | (with_reducible first | exact HB.out | apply below_alloc | apply pw_below_drewN | apply below_drew1 | refine below_set ?_ GE206.out | refine below_set ?_ GE207.out) | exact HB.out))) hk)), Kd.freshB (g := gb206) (o := .cells #[.int .i64 a0_0, .slice A0_1 l0_1.length c0_1, .slice A0_2 l0_2.length c0_2] 40 (0, 0)) (by (with_reducible repeat (first | refine blk_drewN ?_ _ | refine blk_drew ?_ | refine blk_alloc ?_ _)); exact BK206.out) k_ hk, Kd.freshB (g := gb207) (o := .cells #[.int .i64 0, .slice none 0 0, .slice none 0 0] 40 (0, 0)) (by (with_reducible repeat (first | refine blk_drewN ?_ _ | refine blk_drew ?_ | refine blk_alloc ?_ _)); exact BK207.out) k_ hk⟩) _ (Nat.le_refl _)) (Below.refl _ _) (Nat.le_refl _) (by simp) ?_; (case hd => rfl); (case hg => rfl); (case hr => first | (go_simp; done) | (go_simp; rfl)); (case hp => exact (Reps.c3 (show Kd.FK k40 _ _ (⟨a0_0, l0_1, l0_2⟩ : S40) [.int .i64 a0_0, .slice A0_1 l0_1.length c0_1, .slice A0_2 l0_2.length c0_2] from (k40_mkF _ _ (⟨a0_0, l0_1, l0_2⟩ : S40) (Kd.V_reads' (Kd.V_mono (ok' := (fun k_ => ((P0_1_ k_ ∨ P0_2_ k_) ∨ w.heap.size ≤ k_) ∧ k_ ≠ gb206 ∧ k_ ≠ gb207)) (HO0_1.out) (fun k_ hk => ⟨hk.1.1, ⟨hk.1.2, hk.2⟩⟩))).2.1 (Kd.V_F (Kd.V_mono (ok' := (fun k_ => ((P0_1_ k_ ∨ P0_2_ k_) ∨ w.heap.size ≤ k_) ∧ k_ ≠ gb206 ∧ k_ ≠ gb207)) (HO0_1.out) (fun k_ hk => ⟨hk.1.1, ⟨hk.1.2, hk.2⟩⟩))) (Kd.V_reads' (Kd.V_mono (ok' := (fun k_ => ((P0_1_ k_ ∨ P0_2_ k_) ∨ w.heap.size ≤ k_) ∧ k_ ≠ gb206 ∧ k_ ≠ gb207)) (HO0_2.out) (fun k_ hk => ⟨hk.1.1, ⟨hk.1.2, hk.2⟩⟩))).2.1 (Kd.V_F (Kd.V_mono (ok' := (fun k_ => ((P0_1_ k_ ∨ P0_2_ k_) ∨ w.heap.size ≤ k_) ∧ k_ ≠ gb206 ∧ k_ ≠ gb207)) (HO0_2.out) (fun k_ hk => ⟨hk.1.1, ⟨hk.1.2, hk.2⟩⟩))))) (Reps.none _ _))); intro v209 w6 ho7 hb hg_ hnew_; clear hg_ hnew_; (first | rw [← Ny208.out] at ho7 | (simp only [Int.reduceToNat] at ho7; rw [← Ny208.out] at ho7)); have n0_ := Aside0.mk (Kd.V_elder' (by (with_reducible repeat (first | apply Kd.V_alloc | apply Kd.V_drewN | apply Kd.V_drew)); exact HO0_1.out) (Kd.N_base ho7) hb); have n1_ := Aside0.mk (Kd.V_elder' (by (with_reducible repeat (first | apply Kd.V_alloc | apply Kd.V_drewN | apply Kd.V_drew)); exact HO0_2.out) (Kd.N_base ho7) hb); have n2_ := Aside0.mk (Kd.N_lower ho7 (below_size (by repeat (first | (with_reducible first | exact HB.out | apply below_alloc | apply pw_below_drewN | apply below_drew1 | refine below_set ?_ GE206.out | refine below_set ?_ GE207.out) | exact HB.out)))); have n3_ := Aside0.mk (blk_below (g := gb206) (o := .cells #[.int .i64 a0_0, .slice A0_1 l0_1.length c0_1, .slice A0_2 l0_2.length c0_2] 40 (0, 0)) (by (with_reducible repeat (first | refine blk_drewN ?_ _ | refine blk_drew ?_ | refine blk_alloc ?_ _)); exact BK206.out) hb); have n4_ := Aside0.mk (blk_below (g := gb207) (o := .cells #[.int .i64 0, .slice none 0 0, .slice none 0 0] 40 (0, 0)) (by (with_reducible repeat (first | refine blk_drewN ?_ _ | refine blk_drew ?_ | refine blk_alloc ?_ _)); exact BK207.out) hb); have n5_ := Aside0.mk (below_step (by repeat (first | (with_reducible first | exact HB.out | apply below_alloc | apply pw_below_drewN | apply below_drew1 | refine below_set ?_ GE206.out | refine below_set ?_ GE207.out) | exact HB.out)) hb); clear HO0_1; clear HO0_2; clear BK206; clear BK207; clear HB; have HO0_1 := n0_; have HO0_2 := n1_; have HO210 := n2_; have BK206 := n3_; have BK207 := n4_; have HB := n5_; clear n0_ n1_ n2_ n3_ n4_ n5_; clear hb ho7; obtain ⟨Ao8, co8, eo8⟩ := Kd.N_slice HO210.out; subst eo8; have hcz9_0 : w6.cell? ⟨gb207, 0, none⟩ = some (.int .i64 0) := (blk_cell BK207.out 0).trans rfl; have hcz9_1 : w6.cell? ⟨gb207, 1, none⟩ = some (.slice none 0 0) := (blk_cell BK207.out 1).trans rfl; have hcz9_2 : w6.cell? ⟨gb207, 2, none⟩ = some (.slice none 0 0) := (blk_cell BK207.out 2).trans rfl; have hfz9_0 := blk_frozen BK207.out 0; have hfz9_1 := blk_frozen BK207.out 1; have hfz9_2 := blk_frozen BK207.out 2))
  refine bodyPost_ret (results_cell_row rfl _ _ gb207 40 #[.int .i64 6, .slice none 0 0, .slice Ao8 y208.length co8] (0, 0) _ rfl (by (with_reducible repeat (first | refine blk_drewN ?_ _ | refine blk_drew ?_ | refine blk_alloc ?_ _)); refine blk_put (cs := #[.int .i64 6, .slice none 0 0, .slice none 0 0]) ?_ 2 _ rfl; (with_reducible repeat (first | refine blk_drewN ?_ _ | refine blk_drew ?_ | refine blk_alloc ?_ _)); refine blk_put (cs := #[.int .i64 6, .slice none 0 0, .slice none 0 0]) ?_ 1 _ rfl; (with_reducible repeat (first | refine blk_drewN ?_ _ | refine blk_drew ?_ | refine blk_alloc ?_ _)); refine blk_put (cs := #[.int .i64 0, .slice none 0 0, .slice none 0 0]) ?_ 0 _ rfl; (with_reducible repeat (first | refine blk_drewN ?_ _ | refine blk_drew ?_ | refine blk_alloc ?_ _)); exact BK207.out) Try.underlying40 rfl (by kernel_rfl)) rfl ?_
  exact ⟨_, _, by first | rfl | (simp [errW_none, errW_some] <;> rfl) | (simp [*, errW_none, errW_some] <;> rfl), by first | exact Kd.R_nil _ _ _ _ _ | exact Kd.N_nil _ _ _ _ _ | exact Kd.V_nil _ _ _ _ _ | exact Kd.Q_nil _ _ _ _ _ | exact Kd.S_nil _ _ _ _ _, by (with_reducible repeat (first | apply Kd.N_alloc | apply Kd.N_drewN | apply Kd.N_drew)); exact Kd.N_mono (Kd.N_far (p := ⟨gb207, 2, none⟩) (Kd.N_far (p := ⟨gb207, 1, none⟩) (Kd.N_far (p := ⟨gb207, 0, none⟩) (Kd.N_mono HO210.out (fun k_ hk => (⟨hk, hk.2.2⟩ : _ ∧ k_ ≠ gb207))) (fun _ hk => hk.2) (.int .i64 6)) (fun _ hk => hk.2) (.slice none 0 0)) (fun _ hk => hk.2) (.slice Ao8 y208.length co8)) (fun _ hk => ⟨hk.1.1, (by simp [Value.ownBlock])⟩), by repeat (first | (with_reducible first | exact HB.out | apply below_alloc | apply pw_below_drewN | apply below_drew1 | refine below_set ?_ GE206.out | refine below_set ?_ GE207.out) | exact HB.out)⟩

-- NOT PRINTED: function 9 (verbatimlaw20_EvalLaws)

/-! ### verbatimlaw20_EvalParts: function 10 -/
mutual
def verbatimlaw20_EvalParts.j0 : Nat → ByteArray → ByteArray → ByteArray → ByteArray → Bool → Bool → Option (Bool)
  | 0, _, _, _, _, _, _ => none
  | k + 1, x0, x1, x2, x3, x9, x33 => if x33 = true then (some x9) else (if x0.size + x1.size ≤ 9223372036854775807 then ((eval_Match.f k 1 (([x3] : List ByteArray)) ([] : List (S40)) (x0 ++ x1)).bind fun t232 => (verbatimlaw20_EvalParts.l0 k x0 x1 x2 x3 x9 t232 false 0 1 (([x1] : List ByteArray)) 2 (([x1] : List ByteArray)))) else (none))
def verbatimlaw20_EvalParts.l0 : Nat → ByteArray → ByteArray → ByteArray → ByteArray → Bool → Bool → Bool → Int → Int → List ByteArray → Int → List ByteArray → Option (Bool)
  | 0, _, _, _, _, _, _, _, _, _, _, _, _ => none
  | k + 1, x0, x1, x2, x3, x9, x12, x13, x14, x225000, x225001, x229000, x229001 => if x0.size + x1.size ≤ 9223372036854775807 then (if (wrap64 (x14 + (x3.size : Int))) ≤ ((x0.size : Int) + (x1.size : Int)) then (if x13 = true then (verbatimlaw20_EvalParts.l0 k x0 x1 x2 x3 x9 x12 true (wrap64 (x14 + 1)) x225000 x225001 x229000 x229001) else (if 0 ≤ x14 then (if x14 ≤ (wrap64 (x14 + (x3.size : Int))) then (verbatimlaw20_EvalParts.l0 k x0 x1 x2 x3 x9 x12 (((x0 ++ x1).extract (x14 : Int).toNat ((wrap64 (x14 + (x3.size : Int))) : Int).toNat).toList == x3.toList) (wrap64 (x14 + 1)) x225000 x225001 x229000 x229001) else (none)) else (none))) else (if x9 = true then (if (x0 ++ x1).size + x2.size ≤ 9223372036854775807 then ((eval_Match.f k x225000 x225001 ([] : List (S40)) ((x0 ++ x1) ++ x2)).bind fun t233 => (if t233 = true then (if x1.size + x2.size ≤ 9223372036854775807 then ((eval_Match.f k x229000 x229001 ([] : List (S40)) (x1 ++ x2)).bind fun t234 => (if t234 = true then (some (x12 == x13)) else (some false))) else (none)) else (some false))) else (none)) else (some false))) else (none)
end
def verbatimlaw20_EvalParts.f (k : Nat) (a0 : ByteArray) (a1 : ByteArray) (a2 : ByteArray) (a3 : ByteArray) : Option (Bool) := (verbatimlaw20_head.f k).bind fun t220 => (if (a0.size : Int) > 1000 then (verbatimlaw20_EvalParts.j0 k a0 a1 a2 a3 t220 true) else (if (a1.size : Int) > 1000 then (verbatimlaw20_EvalParts.j0 k a0 a1 a2 a3 t220 true) else (if (a2.size : Int) > 1000 then (verbatimlaw20_EvalParts.j0 k a0 a1 a2 a3 t220 true) else (verbatimlaw20_EvalParts.j0 k a0 a1 a2 a3 t220 (decide ((a3.size : Int) > 1000))))))
theorem verbatimlaw20_EvalParts.mono_l : ∀ k, (∀ y0 y1 y2 y3 y4 y5, LeO (verbatimlaw20_EvalParts.j0 k y0 y1 y2 y3 y4 y5) (verbatimlaw20_EvalParts.j0 (k + 1) y0 y1 y2 y3 y4 y5)) ∧ (∀ y0 y1 y2 y3 y4 y5 y6 y7 y8 y9 y10 y11, LeO (verbatimlaw20_EvalParts.l0 k y0 y1 y2 y3 y4 y5 y6 y7 y8 y9 y10 y11) (verbatimlaw20_EvalParts.l0 (k + 1) y0 y1 y2 y3 y4 y5 y6 y7 y8 y9 y10 y11))
  | 0 => ⟨fun _ _ _ _ _ _ r h => by simp [verbatimlaw20_EvalParts.j0] at h, fun _ _ _ _ _ _ _ _ _ _ _ _ r h => by simp [verbatimlaw20_EvalParts.l0] at h⟩
  | k + 1 => by
    obtain ⟨ih0, ih1⟩ := verbatimlaw20_EvalParts.mono_l k
    refine ⟨?_, ?_⟩
    · intro y0 y1 y2 y3 y4 y5
      unfold verbatimlaw20_EvalParts.j0
      repeat' first
      | (with_reducible exact ih0 _ _ _ _ _ _)
      | (with_reducible exact ih1 _ _ _ _ _ _ _ _ _ _ _ _)
      | (with_reducible exact eval_Match.mono _ _ _ _ _)
      | (with_reducible exact verbatimlaw20_head.mono _)
      | (with_reducible exact LeO.refl _)
      | (with_reducible exact LeO.none _)
      | (with_reducible refine LeO.ite ?_ ?_)
      | (with_reducible refine LeO.bind ?_ (fun _ => ?_))
      | exact ih0 _ _ _ _ _ _
      | exact ih1 _ _ _ _ _ _ _ _ _ _ _ _
      | exact eval_Match.mono _ _ _ _ _
      | exact verbatimlaw20_head.mono _
      | exact LeO.none _
      | refine LeO.ite ?_ ?_
      | refine LeO.bind ?_ (fun _ => ?_)
    · intro y0 y1 y2 y3 y4 y5 y6 y7 y8 y9 y10 y11
      unfold verbatimlaw20_EvalParts.l0
      repeat' first
      | (with_reducible exact ih0 _ _ _ _ _ _)
      | (with_reducible exact ih1 _ _ _ _ _ _ _ _ _ _ _ _)
      | (with_reducible exact eval_Match.mono _ _ _ _ _)
      | (with_reducible exact verbatimlaw20_head.mono _)
      | (with_reducible exact LeO.refl _)
      | (with_reducible exact LeO.none _)
      | (with_reducible refine LeO.ite ?_ ?_)
      | (with_reducible refine LeO.bind ?_ (fun _ => ?_))
      | exact ih0 _ _ _ _ _ _
      | exact ih1 _ _ _ _ _ _ _ _ _ _ _ _
      | exact eval_Match.mono _ _ _ _ _
      | exact verbatimlaw20_head.mono _
      | exact LeO.none _
      | refine LeO.ite ?_ ?_
      | refine LeO.bind ?_ (fun _ => ?_)
theorem verbatimlaw20_EvalParts.mono : ∀ a0 a1 a2 a3 k, LeO (verbatimlaw20_EvalParts.f k a0 a1 a2 a3) (verbatimlaw20_EvalParts.f (k + 1) a0 a1 a2 a3) := by
  intro a0 a1 a2 a3 k
  obtain ⟨ih0, ih1⟩ := verbatimlaw20_EvalParts.mono_l k
  unfold verbatimlaw20_EvalParts.f
  repeat' first
      | (with_reducible exact ih0 _ _ _ _ _ _)
      | (with_reducible exact ih1 _ _ _ _ _ _ _ _ _ _ _ _)
      | (with_reducible exact eval_Match.mono _ _ _ _ _)
      | (with_reducible exact verbatimlaw20_head.mono _)
      | (with_reducible exact LeO.refl _)
      | (with_reducible exact LeO.none _)
      | (with_reducible refine LeO.ite ?_ ?_)
      | (with_reducible refine LeO.bind ?_ (fun _ => ?_))
      | exact ih0 _ _ _ _ _ _
      | exact ih1 _ _ _ _ _ _ _ _ _ _ _ _
      | exact eval_Match.mono _ _ _ _ _
      | exact verbatimlaw20_head.mono _
      | exact LeO.none _
      | refine LeO.ite ?_ ?_
      | refine LeO.bind ?_ (fun _ => ?_)
set_option maxHeartbeats 8000000 in
set_option maxRecDepth 100000 in
theorem verbatimlaw20_EvalParts.calls (k : Nat) (a0 : ByteArray) (a1 : ByteArray) (a2 : ByteArray) (a3 : ByteArray) (r : Bool) (w : World) (hG : GlobOk w) (h : verbatimlaw20_EvalParts.f k a0 a1 a2 a3 = some r) :
    Calls Try.prog 10 #[.string a0, .string a1, .string a2, .string a3] w fun e w' => e = .returned (.bool r) ∧ Below w.heap.size w w' := by
  have hu40 := Try.underlying40
  have HG := Aside0.mk hG
  clear hG
  have HB := Aside0.mk (Below.refl w.heap.size w)
  have H : ((verbatimlaw20_head.f k).bind fun t220 => (if (a0.size : Int) > 1000 then (verbatimlaw20_EvalParts.j0 k a0 a1 a2 a3 t220 true) else (if (a1.size : Int) > 1000 then (verbatimlaw20_EvalParts.j0 k a0 a1 a2 a3 t220 true) else (if (a2.size : Int) > 1000 then (verbatimlaw20_EvalParts.j0 k a0 a1 a2 a3 t220 true) else (verbatimlaw20_EvalParts.j0 k a0 a1 a2 a3 t220 (decide ((a3.size : Int) > 1000))))))) = some r := h
  clear h
  replace H := Option.bind_eq_some_iff.mp H
  obtain ⟨t220, A50, H⟩ := H
  replace H : (if (a0.size : Int) > 1000 then (verbatimlaw20_EvalParts.j0 k a0 a1 a2 a3 t220 true) else (if (a1.size : Int) > 1000 then (verbatimlaw20_EvalParts.j0 k a0 a1 a2 a3 t220 true) else (if (a2.size : Int) > 1000 then (verbatimlaw20_EvalParts.j0 k a0 a1 a2 a3 t220 true) else (verbatimlaw20_EvalParts.j0 k a0 a1 a2 a3 t220 (decide ((a3.size : Int) > 1000)))))) = some r := H
  have A5 := Aside0.mk A50
  clear A50
  have HC6 := Aside0.mk H
  clear H
  go_enter Try.func10, Try.ntmps10
  go_upto_region 2 with (first | ((with_reducible refine gate_callee (f := 21) rfl ?_); refine goesL_ (some 15) rfl rfl Try.func21 (by kernel_rfl) rfl #[] rfl (by (try simp only [List.map_toArray, List.map_cons, List.map_nil]); first | done | rfl | (simp only [List.length_drop, List.length_take]; rfl)) ?_; (with_reducible refine (verbatimlaw20_head.calls k  t220 _ ?side1 A5.out).mono ?_); (case side1 => first | exact GlobOk.below HG.out (by repeat (first | (with_reducible first | exact HB.out | apply below_alloc | apply pw_below_drewN | apply below_drew1) | exact HB.out)) | (repeat (first | exact HG.out | (with_reducible refine GlobOk.alloc ?_ _) | (with_reducible refine GlobOk.drewN ?_ _) | (with_reducible refine GlobOk.drew ?_)))); rintro e w7 ⟨rfl, hb⟩; refine ⟨_, rfl, ?_⟩; have n0_ := Aside0.mk (below_step (by repeat (first | (with_reducible first | exact HB.out | apply below_alloc | apply pw_below_drewN | apply below_drew1) | exact HB.out)) hb); clear HB; have HB := n0_; clear n0_; (try clear hb); (try clear hb2); (try clear hk); (try clear hi)))
  (try simp only [Act.put, List.setIfInBounds_toArray, List.set_cons_zero, List.set_cons_succ])
  go_cut [33] (fun v33 wc => ∃ (kq : Nat) (x33_5 : Bool), v33 = .bool x33_5 ∧ Aside0 (verbatimlaw20_EvalParts.j0 kq a0 a1 a2 a3 t220 x33_5 = some r) ∧ Aside0 (kq ≤ k) ∧ Aside0 (Below w.heap.size w wc))
  case first =>
    have H := HC6.out
    clear HC6
    by_cases c8 : (a0.size : Int) > 1000
    · rw [if_pos c8] at H
      have c8b0 : decide (1000 < (a0.size : Int)) = true := decide_eq_true c8
      have c8b1 : decide (1000 < a0.size) = true := decide_eq_true (by omega)
      clear c8
      (first | rw [c8b0] | (simp only [i64_w, i32_w]; rw [c8b0]) | skip)
      have H' := Aside0.mk H
      clear H
      go_wp2
      go_meet
      case rel => exact ⟨_, (true), (by first | rfl | (simp; done) | (simp [*]; done)), H', ⟨by first | omega | exact Nat.le_refl _⟩, ⟨by repeat (first | (with_reducible first | exact HB.out | apply below_alloc | apply pw_below_drewN | apply below_drew1) | exact HB.out)⟩⟩
    · rw [if_neg c8] at H
      have c8b0 : decide (1000 < (a0.size : Int)) = false := decide_eq_false c8
      have c8b1 : decide (1000 < a0.size) = false := decide_eq_false (by omega)
      clear c8
      (first | rw [c8b0] | (simp only [i64_w, i32_w]; rw [c8b0]) | skip)
      by_cases c9 : (a1.size : Int) > 1000
      · rw [if_pos c9] at H
        have c9b0 : decide (1000 < (a1.size : Int)) = true := decide_eq_true c9
        have c9b1 : decide (1000 < a1.size) = true := decide_eq_true (by omega)
        clear c9
        have H' := Aside0.mk H
        clear H
        go_wp2
        go_meet
        case rel => exact ⟨_, (true), (by first | rfl | (simp; done) | (simp [*]; done)), H', ⟨by first | omega | exact Nat.le_refl _⟩, ⟨by repeat (first | (with_reducible first | exact HB.out | apply below_alloc | apply pw_below_drewN | apply below_drew1) | exact HB.out)⟩⟩
      · rw [if_neg c9] at H
        have c9b0 : decide (1000 < (a1.size : Int)) = false := decide_eq_false c9
        have c9b1 : decide (1000 < a1.size) = false := decide_eq_false (by omega)
        clear c9
        by_cases c10 : (a2.size : Int) > 1000
        · rw [if_pos c10] at H
          have c10b0 : decide (1000 < (a2.size : Int)) = true := decide_eq_true c10
          have c10b1 : decide (1000 < a2.size) = true := decide_eq_true (by omega)
          clear c10
          have H' := Aside0.mk H
          clear H
          go_wp2
          go_meet
          case rel => exact ⟨_, (true), (by first | rfl | (simp; done) | (simp [*]; done)), H', ⟨by first | omega | exact Nat.le_refl _⟩, ⟨by repeat (first | (with_reducible first | exact HB.out | apply below_alloc | apply pw_below_drewN | apply below_drew1) | exact HB.out)⟩⟩
        · rw [if_neg c10] at H
          have c10b0 : decide (1000 < (a2.size : Int)) = false := decide_eq_false c10
          have c10b1 : decide (1000 < a2.size) = false := decide_eq_false (by omega)
          clear c10
          have H' := Aside0.mk H
          clear H
          go_wp2
          go_meet
          case rel => exact ⟨_, (decide ((a3.size : Int) > 1000)), (by first | rfl | (simp; done) | (simp [*]; done)), H', ⟨by first | omega | exact Nat.le_refl _⟩, ⟨by repeat (first | (with_reducible first | exact HB.out | apply below_alloc | apply pw_below_drewN | apply below_drew1) | exact HB.out)⟩⟩
  case rest =>
    clear HC6
    try clear c1
    try clear c2
    try clear p2
    try clear c8
    try clear c8b0
    try clear c8b1
    try clear c9
    try clear c9b0
    try clear c9b1
    try clear c10
    try clear c10b0
    try clear c10b1
    obtain ⟨kq, x33_5, rfl, HA, HJ5, HB⟩ := hcut
    cases kq with
    | zero => exact absurd HA.out (by simp [verbatimlaw20_EvalParts.j0])
    | succ kj5 =>
      have H := HA.out
      clear HA
      simp only [verbatimlaw20_EvalParts.j0] at H
      by_cases c11 : x33_5 = true
      · subst c11
        have H1 : (some t220) = some r := by rw [if_pos rfl] at H; exact H
        clear H
        have H := H1
        clear H1
        obtain rfl := Option.some.inj H
        go_wp2
        go_ret
        exact ⟨by first | rfl | (simp [errW_none, errW_some] <;> rfl) | (simp [*, errW_none, errW_some] <;> rfl), by repeat (first | (with_reducible first | exact HB.out | apply below_alloc | apply pw_below_drewN | apply below_drew1) | exact HB.out)⟩
      · replace c11 := Bool.eq_false_iff.mpr c11
        subst c11
        have H1 : (if a0.size + a1.size ≤ 9223372036854775807 then ((eval_Match.f kj5 1 (([a3] : List ByteArray)) ([] : List (S40)) (a0 ++ a1)).bind fun t232 => (verbatimlaw20_EvalParts.l0 kj5 a0 a1 a2 a3 t220 t232 false 0 1 (([a1] : List ByteArray)) 2 (([a1] : List ByteArray)))) else (none)) = some r := by rw [if_neg (show ¬ (false = true) by decide)] at H; exact H
        clear H
        have H := H1
        clear H1
        obtain ⟨y221, hy221⟩ : ∃ y_ : List ByteArray, y_ = (([a1] : List ByteArray)) := ⟨_, rfl⟩
        replace H : (if a0.size + a1.size ≤ 9223372036854775807 then ((eval_Match.f kj5 1 (([a3] : List ByteArray)) ([] : List (S40)) (a0 ++ a1)).bind fun t232 => (verbatimlaw20_EvalParts.l0 kj5 a0 a1 a2 a3 t220 t232 false 0 1 y221 2 (([a1] : List ByteArray)))) else (none)) = some r := by first | (rw [hy221]; with_reducible exact H) | (have H2_ := (Option.bind_some _ _).symm.trans H; rw [hy221]; with_reducible exact H2_) | (have H2_ := (Option.bind_some _ _).symm.trans H; with_reducible exact H2_) | with_reducible exact H | (rw [hy221]; exact H) | exact H
        have Ny221 := Aside0.mk hy221
        clear hy221
        obtain ⟨y225, hy225⟩ : ∃ y_ : List ByteArray, y_ = (([a1] : List ByteArray)) := ⟨_, rfl⟩
        replace H : (if a0.size + a1.size ≤ 9223372036854775807 then ((eval_Match.f kj5 1 (([a3] : List ByteArray)) ([] : List (S40)) (a0 ++ a1)).bind fun t232 => (verbatimlaw20_EvalParts.l0 kj5 a0 a1 a2 a3 t220 t232 false 0 1 y221 2 y225)) else (none)) = some r := by first | (rw [hy225]; with_reducible exact H) | (have H2_ := (Option.bind_some _ _).symm.trans H; rw [hy225]; with_reducible exact H2_) | (have H2_ := (Option.bind_some _ _).symm.trans H; with_reducible exact H2_) | with_reducible exact H | (rw [hy225]; exact H) | exact H
        have Ny225 := Aside0.mk hy225
        clear hy225
        obtain ⟨y229, hy229⟩ : ∃ y_ : List ByteArray, y_ = (([a3] : List ByteArray)) := ⟨_, rfl⟩
        replace H : (if a0.size + a1.size ≤ 9223372036854775807 then ((eval_Match.f kj5 1 y229 ([] : List (S40)) (a0 ++ a1)).bind fun t232 => (verbatimlaw20_EvalParts.l0 kj5 a0 a1 a2 a3 t220 t232 false 0 1 y221 2 y225)) else (none)) = some r := by first | (rw [hy229]; with_reducible exact H) | (have H2_ := (Option.bind_some _ _).symm.trans H; rw [hy229]; with_reducible exact H2_) | (have H2_ := (Option.bind_some _ _).symm.trans H; with_reducible exact H2_) | with_reducible exact H | (rw [hy229]; exact H) | exact H
        have Ny229 := Aside0.mk hy229
        clear hy229
        by_cases c12 : a0.size + a1.size ≤ 9223372036854775807
        · rw [if_pos c12] at H
          have c12b0 := eq_true c12
          have c12b1 : decide (a0.size + a1.size ≤ 9223372036854775807) = true := decide_eq_true c12
          try have c12b2 : (9223372036854775807 < a0.size + a1.size) = False := eq_false (Nat.not_lt.2 c12)
          replace H := Option.bind_eq_some_iff.mp H
          obtain ⟨t232, A130, H⟩ := H
          replace H : (verbatimlaw20_EvalParts.l0 kj5 a0 a1 a2 a3 t220 t232 false 0 1 y221 2 y225) = some r := H
          have A13 := Aside0.mk A130
          clear A130
          have H' := Aside0.mk H
          clear H
          go_wp2_with (first | ((with_reducible refine gate_dst (N := 36) rfl ?_); (try (refine gate_guard (by rfl) ?_; dsimp only)); refine Kd.R_lit Kd.string _ 9 ?hg (N := 36) ?hd (xs := ([a1] : List ByteArray)) (inner := [.string a1]) (ok := fun _ => True) (okp := fun _ => True) ?hr ?hp (fun _ hk => hk) trivial (Below.refl _ _) (Nat.le_refl _) (by simp) ?_; (case hd => rfl); (case hg => rfl); (case hr => first | (go_simp; done) | (go_simp; rfl)); (case hp => exact (Reps.one (show Kd.M Kd.string _ _ _ a1 [.string a1] from rfl) (Reps.none _ _))); intro v222 w14 ho15 hb hg_ hnew_; clear hg_ hnew_; (first | rw [← Ny221.out] at ho15 | (simp only [Int.reduceToNat] at ho15; rw [← Ny221.out] at ho15)); have n0_ := Aside0.mk (Kd.R_lower ho15 (below_size (by repeat (first | (with_reducible first | exact HB.out | apply below_alloc | apply pw_below_drewN | apply below_drew1) | exact HB.out)))); have n1_ := Aside0.mk (below_step (by repeat (first | (with_reducible first | exact HB.out | apply below_alloc | apply pw_below_drewN | apply below_drew1) | exact HB.out)) hb); clear HB; have HO223 := n0_; have HB := n1_; clear n0_ n1_; clear hb ho15; obtain ⟨Ao16, co16, eo16⟩ := Kd.R_slice HO223.out; subst eo16) | ((with_reducible refine gate_dst (N := 10) rfl ?_); (try (refine gate_guard (by rfl) ?_; dsimp only)); refine box_event ?hg (N := 10) ?hd (cs := #[.int .i64 0, .slice none 0 0, .slice none 0 0]) (t := 40) ?hr ?_; (case hd => rfl); (case hg => rfl); (case hr => first | (go_simp; done) | (go_simp; rfl)); intro gb224 hg w17 hbox hb; have n0_ := Aside0.mk (Kd.R_below (by (with_reducible repeat (first | apply Kd.R_alloc | apply Kd.R_drewN | apply Kd.R_drew)); exact HO223.out) hb); have n1_ := Aside0.mk (below_step (by repeat (first | (with_reducible first | exact HB.out | apply below_alloc | apply pw_below_drewN | apply below_drew1) | exact HB.out)) hb); have n2_ := Aside0.mk (hbox); have n3_ := Aside0.mk ((by rw [hg]; exact (below_size (by repeat (first | (with_reducible first | exact HB.out | apply below_alloc | apply pw_below_drewN | apply below_drew1) | exact HB.out))) : w.heap.size ≤ gb224)); have n4_ := Aside0.mk ((by rw [hg]; exact (below_size (by repeat (first | (with_reducible first | exact HB.out | apply below_alloc | apply pw_below_drewN | apply below_drew1) | exact HB.out))) : w.heap.size ≤ gb224)); clear HO223; clear HB; have HO223 := n0_; have HB := n1_; have BK224 := n2_; have GW224 := n3_; have GE224 := n4_; clear n0_ n1_ n2_ n3_ n4_; clear hb hbox hg; have hcz18_0 : w17.cell? ⟨gb224, 0, none⟩ = some (.int .i64 0) := (blk_cell BK224.out 0).trans rfl; have hcz18_1 : w17.cell? ⟨gb224, 1, none⟩ = some (.slice none 0 0) := (blk_cell BK224.out 1).trans rfl; have hcz18_2 : w17.cell? ⟨gb224, 2, none⟩ = some (.slice none 0 0) := (blk_cell BK224.out 2).trans rfl; have hfz18_0 := blk_frozen BK224.out 0; have hfz18_1 := blk_frozen BK224.out 1; have hfz18_2 := blk_frozen BK224.out 2) | ((with_reducible refine gate_dst (N := 39) rfl ?_); (try (refine gate_guard (by rfl) ?_; dsimp only)); refine Kd.R_lit Kd.string _ 9 ?hg (N := 39) ?hd (xs := ([a1] : List ByteArray)) (inner := [.string a1]) (ok := fun _ => True) (okp := fun _ => True) ?hr ?hp (fun _ hk => hk) trivial (Below.refl _ _) (Nat.le_refl _) (by simp) ?_; (case hd => rfl); (case hg => rfl); (case hr => first | (go_simp; done) | (go_simp; rfl)); (case hp => exact (Reps.one (show Kd.M Kd.string _ _ _ a1 [.string a1] from rfl) (Reps.none _ _))); intro v226 w19 ho20 hb hg_ hnew_; clear hg_ hnew_; (first | rw [← Ny225.out] at ho20 | (simp only [Int.reduceToNat] at ho20; rw [← Ny225.out] at ho20)); have n0_ := Aside0.mk (Kd.R_elder' (by (with_reducible repeat (first | apply Kd.R_alloc | apply Kd.R_drewN | apply Kd.R_drew)); exact (Kd.R_mono (Kd.R_far (p := ⟨gb224, 2, none⟩) (Kd.R_far (p := ⟨gb224, 1, none⟩) (Kd.R_far (p := ⟨gb224, 0, none⟩) (Kd.R_types HO223.out BK224.out (by decide)) (fun _ hk => hk.2) (.int .i64 1)) (fun _ hk => hk.2) (.slice Ao16 y221.length co16)) (fun _ hk => hk.2) (.slice none 0 0)) (fun _ h_ => h_.1))) (Kd.R_base ho20) hb); have n1_ := Aside0.mk (Kd.R_lower (Kd.R_new' ho20 (Kd.R_lt (by (with_reducible repeat (first | apply Kd.R_alloc | apply Kd.R_drewN | apply Kd.R_drew)); exact (Kd.R_mono (Kd.R_far (p := ⟨gb224, 2, none⟩) (Kd.R_far (p := ⟨gb224, 1, none⟩) (Kd.R_far (p := ⟨gb224, 0, none⟩) (Kd.R_types HO223.out BK224.out (by decide)) (fun _ hk => hk.2) (.int .i64 1)) (fun _ hk => hk.2) (.slice Ao16 y221.length co16)) (fun _ hk => hk.2) (.slice none 0 0)) (fun _ h_ => h_.1))))) (below_size (by repeat (first | (with_reducible first | exact HB.out | apply below_alloc | apply pw_below_drewN | apply below_drew1 | refine below_set ?_ GE224.out) | exact HB.out)))); have n2_ := Aside0.mk (blk_below (g := gb224) (o := .cells #[.int .i64 1, .slice Ao16 y221.length co16, .slice none 0 0] 40 (0, 0)) (by (with_reducible repeat (first | refine blk_drewN ?_ _ | refine blk_drew ?_ | refine blk_alloc ?_ _)); refine blk_put (cs := #[.int .i64 1, .slice Ao16 y221.length co16, .slice none 0 0]) ?_ 2 _ rfl; (with_reducible repeat (first | refine blk_drewN ?_ _ | refine blk_drew ?_ | refine blk_alloc ?_ _)); refine blk_put (cs := #[.int .i64 1, .slice none 0 0, .slice none 0 0]) ?_ 1 _ rfl; (with_reducible repeat (first | refine blk_drewN ?_ _ | refine blk_drew ?_ | refine blk_alloc ?_ _)); refine blk_put (cs := #[.int .i64 0, .slice none 0 0, .slice none 0 0]) ?_ 0 _ rfl; (with_reducible repeat (first | refine blk_drewN ?_ _ | refine blk_drew ?_ | refine blk_alloc ?_ _)); exact BK224.out) hb); have n3_ := Aside0.mk (below_step (by repeat (first | (with_reducible first | exact HB.out | apply below_alloc | apply pw_below_drewN | apply below_drew1 | refine below_set ?_ GE224.out) | exact HB.out)) hb); clear HO223; clear BK224; clear HB; have HO223 := n0_; have HO227 := n1_; have BK224 := n2_; have HB := n3_; clear n0_ n1_ n2_ n3_; clear hb ho20; obtain ⟨Ao21, co21, eo21⟩ := Kd.R_slice HO227.out; subst eo21) | ((with_reducible refine gate_dst (N := 11) rfl ?_); (try (refine gate_guard (by rfl) ?_; dsimp only)); refine box_event ?hg (N := 11) ?hd (cs := #[.int .i64 0, .slice none 0 0, .slice none 0 0]) (t := 40) ?hr ?_; (case hd => rfl); (case hg => rfl); (case hr => first | (go_simp; done) | (go_simp; rfl)); intro gb228 hg w22 hbox hb; have n0_ := Aside0.mk (Kd.R_below (by (with_reducible repeat (first | apply Kd.R_alloc | apply Kd.R_drewN | apply Kd.R_drew)); exact HO223.out) hb); have n1_ := Aside0.mk (Kd.R_below (by (with_reducible repeat (first | apply Kd.R_alloc | apply Kd.R_drewN | apply Kd.R_drew)); exact HO227.out) hb); have n2_ := Aside0.mk (blk_below (g := gb224) (o := .cells #[.int .i64 1, .slice Ao16 y221.length co16, .slice none 0 0] 40 (0, 0)) (by (with_reducible repeat (first | refine blk_drewN ?_ _ | refine blk_drew ?_ | refine blk_alloc ?_ _)); exact BK224.out) hb); have n3_ := Aside0.mk (below_step (by repeat (first | (with_reducible first | exact HB.out | apply below_alloc | apply pw_below_drewN | apply below_drew1 | refine below_set ?_ GE224.out) | exact HB.out)) hb); have n4_ := Aside0.mk (hbox); have n5_ := Aside0.mk ((by rw [hg]; exact (below_size (by repeat (first | (with_reducible first | exact HB.out | apply below_alloc | apply pw_below_drewN | apply below_drew1 | refine below_set ?_ GE224.out) | exact HB.out))) : w.heap.size ≤ gb228)); have n6_ := Aside0.mk ((by rw [hg]; exact (below_size (by repeat (first | (with_reducible first | exact HB.out | apply below_alloc | apply pw_below_drewN | apply below_drew1 | refine below_set ?_ GE224.out) | exact HB.out))) : w.heap.size ≤ gb228)); have n7_ := Aside0.mk ((by rw [hg]; exact Nat.ne_of_lt (blk_lt (g := gb224) (o := .cells #[.int .i64 1, .slice Ao16 y221.length co16, .slice none 0 0] 40 (0, 0)) (by (with_reducible repeat (first | refine blk_drewN ?_ _ | refine blk_drew ?_ | refine blk_alloc ?_ _)); exact BK224.out)) : gb224 ≠ gb228)); have n8_ := Aside0.mk ((by rw [hg]; exact Nat.ne_of_gt (blk_lt (g := gb224) (o := .cells #[.int .i64 1, .slice Ao16 y221.length co16, .slice none 0 0] 40 (0, 0)) (by (with_reducible repeat (first | refine blk_drewN ?_ _ | refine blk_drew ?_ | refine blk_alloc ?_ _)); exact BK224.out)) : gb228 ≠ gb224)); clear HO223; clear HO227; clear BK224; clear HB; have HO223 := n0_; have HO227 := n1_; have BK224 := n2_; have HB := n3_; have BK228 := n4_; have GW228 := n5_; have GE228 := n6_; have NB224_228 := n7_; have NB228_224 := n8_; clear n0_ n1_ n2_ n3_ n4_ n5_ n6_ n7_ n8_; clear hb hbox hg; have hnb23 := NB228_224.out; have hnc23 := NB224_228.out; have hcz24_0 : w22.cell? ⟨gb228, 0, none⟩ = some (.int .i64 0) := (blk_cell BK228.out 0).trans rfl; have hcz24_1 : w22.cell? ⟨gb228, 1, none⟩ = some (.slice none 0 0) := (blk_cell BK228.out 1).trans rfl; have hcz24_2 : w22.cell? ⟨gb228, 2, none⟩ = some (.slice none 0 0) := (blk_cell BK228.out 2).trans rfl; have hfz24_0 := blk_frozen BK228.out 0; have hfz24_1 := blk_frozen BK228.out 1; have hfz24_2 := blk_frozen BK228.out 2) | ((with_reducible refine gate_dst (N := 42) rfl ?_); (try (refine gate_guard (by rfl) ?_; dsimp only)); refine Kd.R_lit Kd.string _ 9 ?hg (N := 42) ?hd (xs := ([a3] : List ByteArray)) (inner := [.string a3]) (ok := fun _ => True) (okp := fun _ => True) ?hr ?hp (fun _ hk => hk) trivial (Below.refl _ _) (Nat.le_refl _) (by simp) ?_; (case hd => rfl); (case hg => rfl); (case hr => first | (go_simp; done) | (go_simp; rfl)); (case hp => exact (Reps.one (show Kd.M Kd.string _ _ _ a3 [.string a3] from rfl) (Reps.none _ _))); intro v230 w25 ho26 hb hg_ hnew_; clear hg_ hnew_; (first | rw [← Ny229.out] at ho26 | (simp only [Int.reduceToNat] at ho26; rw [← Ny229.out] at ho26)); have n0_ := Aside0.mk (Kd.R_elder' (by (with_reducible repeat (first | apply Kd.R_alloc | apply Kd.R_drewN | apply Kd.R_drew)); exact (Kd.R_mono (Kd.R_far (p := ⟨gb228, 2, none⟩) (Kd.R_far (p := ⟨gb228, 1, none⟩) (Kd.R_far (p := ⟨gb228, 0, none⟩) (Kd.R_types HO223.out BK228.out (by decide)) (fun _ hk => hk.2) (.int .i64 2)) (fun _ hk => hk.2) (.slice Ao21 y225.length co21)) (fun _ hk => hk.2) (.slice none 0 0)) (fun _ h_ => h_.1))) (Kd.R_base ho26) hb); have n1_ := Aside0.mk (Kd.R_elder' (by (with_reducible repeat (first | apply Kd.R_alloc | apply Kd.R_drewN | apply Kd.R_drew)); exact (Kd.R_mono (Kd.R_far (p := ⟨gb228, 2, none⟩) (Kd.R_far (p := ⟨gb228, 1, none⟩) (Kd.R_far (p := ⟨gb228, 0, none⟩) (Kd.R_types HO227.out BK228.out (by decide)) (fun _ hk => hk.2) (.int .i64 2)) (fun _ hk => hk.2) (.slice Ao21 y225.length co21)) (fun _ hk => hk.2) (.slice none 0 0)) (fun _ h_ => h_.1))) (Kd.R_base ho26) hb); have n2_ := Aside0.mk (Kd.R_lower (Kd.R_new' (Kd.R_new' ho26 (Kd.R_lt (by (with_reducible repeat (first | apply Kd.R_alloc | apply Kd.R_drewN | apply Kd.R_drew)); exact (Kd.R_mono (Kd.R_far (p := ⟨gb228, 2, none⟩) (Kd.R_far (p := ⟨gb228, 1, none⟩) (Kd.R_far (p := ⟨gb228, 0, none⟩) (Kd.R_types HO223.out BK228.out (by decide)) (fun _ hk => hk.2) (.int .i64 2)) (fun _ hk => hk.2) (.slice Ao21 y225.length co21)) (fun _ hk => hk.2) (.slice none 0 0)) (fun _ h_ => h_.1))))) (Kd.R_lt (by (with_reducible repeat (first | apply Kd.R_alloc | apply Kd.R_drewN | apply Kd.R_drew)); exact (Kd.R_mono (Kd.R_far (p := ⟨gb228, 2, none⟩) (Kd.R_far (p := ⟨gb228, 1, none⟩) (Kd.R_far (p := ⟨gb228, 0, none⟩) (Kd.R_types HO227.out BK228.out (by decide)) (fun _ hk => hk.2) (.int .i64 2)) (fun _ hk => hk.2) (.slice Ao21 y225.length co21)) (fun _ hk => hk.2) (.slice none 0 0)) (fun _ h_ => h_.1))))) (below_size (by repeat (first | (with_reducible first | exact HB.out | apply below_alloc | apply pw_below_drewN | apply below_drew1 | refine below_set ?_ GE224.out | refine below_set ?_ GE228.out) | exact HB.out)))); have n3_ := Aside0.mk (blk_below (g := gb224) (o := .cells #[.int .i64 1, .slice Ao16 y221.length co16, .slice none 0 0] 40 (0, 0)) (by (with_reducible repeat (first | refine blk_drewN ?_ _ | refine blk_drew ?_ | refine blk_alloc ?_ _)); refine blk_far ?_ NB224_228.out _; (with_reducible repeat (first | refine blk_drewN ?_ _ | refine blk_drew ?_ | refine blk_alloc ?_ _)); refine blk_far ?_ NB224_228.out _; (with_reducible repeat (first | refine blk_drewN ?_ _ | refine blk_drew ?_ | refine blk_alloc ?_ _)); refine blk_far ?_ NB224_228.out _; (with_reducible repeat (first | refine blk_drewN ?_ _ | refine blk_drew ?_ | refine blk_alloc ?_ _)); exact BK224.out) hb); have n4_ := Aside0.mk (blk_below (g := gb228) (o := .cells #[.int .i64 2, .slice Ao21 y225.length co21, .slice none 0 0] 40 (0, 0)) (by (with_reducible repeat (first | refine blk_drewN ?_ _ | refine blk_drew ?_ | refine blk_alloc ?_ _)); refine blk_put (cs := #[.int .i64 2, .slice Ao21 y225.length co21, .slice none 0 0]) ?_ 2 _ rfl; (with_reducible repeat (first | refine blk_drewN ?_ _ | refine blk_drew ?_ | refine blk_alloc ?_ _)); refine blk_put (cs := #[.int .i64 2, .slice none 0 0, .slice none 0 0]) ?_ 1 _ rfl; (with_reducible repeat (first | refine blk_drewN ?_ _ | refine blk_drew ?_ | refine blk_alloc ?_ _)); refine blk_put (cs := #[.int .i64 0, .slice none 0 0, .slice none 0 0]) ?_ 0 _ rfl; (with_reducible repeat (first | refine blk_drewN ?_ _ | refine blk_drew ?_ | refine blk_alloc ?_ _)); exact BK228.out) hb); have n5_ := Aside0.mk (below_step (by repeat (first | (with_reducible first | exact HB.out | apply below_alloc | apply pw_below_drewN | apply below_drew1 | refine below_set ?_ GE224.out | refine below_set ?_ GE228.out) | exact HB.out)) hb); clear HO223; clear HO227; clear BK224; clear BK228; clear HB; have HO223 := n0_; have HO227 := n1_; have HO231 := n2_; have BK224 := n3_; have BK228 := n4_; have HB := n5_; clear n0_ n1_ n2_ n3_ n4_ n5_; clear hb ho26; obtain ⟨Ao27, co27, eo27⟩ := Kd.R_slice HO231.out; subst eo27) | ((with_reducible refine gate_callee (f := 25) rfl ?_); refine goesL_ (some 47) rfl rfl Try.func25 (by kernel_rfl) rfl #[.agg #[.int .i64 1, .slice Ao27 y229.length co27, .slice none 0 0], .string (a0 ++ a1)] rfl (by (try simp only [List.map_toArray, List.map_cons, List.map_nil]); first | done | rfl | (simp only [List.length_drop, List.length_take]; rfl)) ?_; (refine (eval_Match.calls kj5 1 _ _ y229 _ _ ([] : List (S40)) (a0 ++ a1) t232 _ ?side1 ?side2 ?side3 ?side4 ?side5 A13.out).mono ?_); (case side1 => first | exact GlobOk.below HG.out (by repeat (first | (with_reducible first | exact HB.out | apply below_alloc | apply pw_below_drewN | apply below_drew1 | refine below_set ?_ GE224.out | refine below_set ?_ GE228.out) | exact HB.out)) | (repeat (first | exact HG.out | (with_reducible refine GlobOk.alloc ?_ _) | (with_reducible refine GlobOk.drewN ?_ _) | (with_reducible refine GlobOk.drew ?_)))); (case side2 => repeat (first | exact (Kd.R_reads' HO231.out).2.2 | (with_reducible refine Kd.C_alloc ?_ _) | (with_reducible refine Kd.C_drewN ?_ _) | (with_reducible refine Kd.C_drew ?_))); (case side3 => exact (Kd.R_reads' HO231.out).2.1); (case side4 => exact Kd.C_nil _ _); (case side5 => exact Nat.le_refl _); rintro e w28 ⟨rfl, hb⟩; refine ⟨_, rfl, ?_⟩; have n0_ := Aside0.mk (Kd.R_below (by (with_reducible repeat (first | apply Kd.R_alloc | apply Kd.R_drewN | apply Kd.R_drew)); exact HO223.out) hb); have n1_ := Aside0.mk (Kd.R_below (by (with_reducible repeat (first | apply Kd.R_alloc | apply Kd.R_drewN | apply Kd.R_drew)); exact HO227.out) hb); have n2_ := Aside0.mk (Kd.R_below (by (with_reducible repeat (first | apply Kd.R_alloc | apply Kd.R_drewN | apply Kd.R_drew)); exact HO231.out) hb); have n3_ := Aside0.mk (blk_below (g := gb224) (o := .cells #[.int .i64 1, .slice Ao16 y221.length co16, .slice none 0 0] 40 (0, 0)) (by (with_reducible repeat (first | refine blk_drewN ?_ _ | refine blk_drew ?_ | refine blk_alloc ?_ _)); exact BK224.out) hb); have n4_ := Aside0.mk (blk_below (g := gb228) (o := .cells #[.int .i64 2, .slice Ao21 y225.length co21, .slice none 0 0] 40 (0, 0)) (by (with_reducible repeat (first | refine blk_drewN ?_ _ | refine blk_drew ?_ | refine blk_alloc ?_ _)); exact BK228.out) hb); have n5_ := Aside0.mk (below_step (by repeat (first | (with_reducible first | exact HB.out | apply below_alloc | apply pw_below_drewN | apply below_drew1 | refine below_set ?_ GE224.out | refine below_set ?_ GE228.out) | exact HB.out)) hb); clear HO223; clear HO227; clear HO231; clear BK224; clear BK228; clear HB; have HO223 := n0_; have HO227 := n1_; have HO231 := n2_; have BK224 := n3_; have BK228 := n4_; have HB := n5_; clear n0_ n1_ n2_ n3_ n4_ n5_; (try clear hb); (try clear hb2); (try clear hk); (try clear hi)))
          go_loopg [13, 14] kj5 (fun kq v13 v14 w' => ∃ (x13_2 : Bool) (x14_2 : Int), v13 = .bool x13_2 ∧ v14 = .int .i64 x14_2 ∧ Aside0 (verbatimlaw20_EvalParts.l0 kq a0 a1 a2 a3 t220 t232 x13_2 x14_2 1 y221 2 y225 = some r) ∧ Aside0 (kq ≤ kj5) ∧ Aside0 (Kd.R Kd.string 9 w' w.heap.size (fun k_ => some k_ ≠ ((.slice Ao21 y225.length co21) : Value).ownBlock) (.slice Ao16 y221.length co16) y221) ∧ Aside0 (Kd.R Kd.string 9 w' w.heap.size (fun k_ => some k_ ≠ ((.slice Ao16 y221.length co16) : Value).ownBlock) (.slice Ao21 y225.length co21) y225) ∧ Aside0 (w'.heap[gb224]? = some (.cells #[.int .i64 1, (.slice Ao16 y221.length co16), (.slice none 0 0)] 40 (0, 0))) ∧ Aside0 (w'.heap[gb228]? = some (.cells #[.int .i64 2, (.slice Ao21 y225.length co21), (.slice none 0 0)] 40 (0, 0))) ∧ Aside0 (Below w.heap.size w w'))
          case atStart => exact ⟨(false), (0), (by first | rfl | (simp; done) | (simp [*]; done)), (by first | rfl | (simp; done) | (simp [*]; done)), H', ⟨Nat.le_refl _⟩, ⟨by (with_reducible repeat (first | apply Kd.R_alloc | apply Kd.R_drewN | apply Kd.R_drew)); exact Kd.R_mono HO223.out (fun _ hk => hk.1.2)⟩, ⟨by (with_reducible repeat (first | apply Kd.R_alloc | apply Kd.R_drewN | apply Kd.R_drew)); exact Kd.R_mono HO227.out (fun _ hk => hk.1.2)⟩, ⟨by (with_reducible repeat (first | refine blk_drewN ?_ _ | refine blk_drew ?_ | refine blk_alloc ?_ _)); exact BK224.out⟩, ⟨by (with_reducible repeat (first | refine blk_drewN ?_ _ | refine blk_drew ?_ | refine blk_alloc ?_ _)); exact BK228.out⟩, ⟨by repeat (first | (with_reducible first | exact HB.out | apply below_alloc | apply pw_below_drewN | apply below_drew1 | refine below_set ?_ GE224.out | refine below_set ?_ GE228.out) | exact HB.out)⟩⟩
          case round =>
            clear H'
            try clear c1
            try clear c2
            try clear p2
            try clear c8
            try clear c8b0
            try clear c8b1
            try clear c9
            try clear c9b0
            try clear c9b1
            try clear c10
            try clear c10b0
            try clear c10b1
            try clear c11
            try clear c12
            try clear c12b0
            try clear c12b1
            try clear c12b2
            try clear c21
            try clear c23
            try clear c25
            try clear hcz18_0
            try clear hcz18_1
            try clear hcz18_2
            try clear hcz24_0
            try clear hcz24_1
            try clear hcz24_2
            try clear hfz18_0
            try clear hfz18_1
            try clear hfz18_2
            try clear hfz24_0
            try clear hfz24_1
            try clear hfz24_2
            try clear p2
            obtain ⟨x13_2, x14_2, rfl, rfl, HA, HK2, HO_225001, HO_229001, BK224, BK228, HB⟩ := hrel
            cases gk with
            | zero => exact absurd HA.out (by simp [verbatimlaw20_EvalParts.l0])
            | succ k2 =>
              have H := HA.out
              clear HA
              simp only [verbatimlaw20_EvalParts.l0] at H
              by_cases c29 : a0.size + a1.size ≤ 9223372036854775807
              · rw [if_pos c29] at H
                have c29b0 := eq_true c29
                have c29b1 : decide (a0.size + a1.size ≤ 9223372036854775807) = true := decide_eq_true c29
                try have c29b2 : (9223372036854775807 < a0.size + a1.size) = False := eq_false (Nat.not_lt.2 c29)
                by_cases c30 : (wrap64 (x14_2 + (a3.size : Int))) ≤ ((a0.size : Int) + (a1.size : Int))
                · rw [if_pos c30] at H
                  have c30b0 : decide ((wrap64 (x14_2 + (a3.size : Int))) ≤ ((a0.size : Int) + (a1.size : Int))) = true := decide_eq_true c30
                  clear c30
                  by_cases c31 : x13_2 = true
                  · subst c31
                    have H1 : (verbatimlaw20_EvalParts.l0 k2 a0 a1 a2 a3 t220 t232 true (wrap64 (x14_2 + 1)) 1 y221 2 y225) = some r := by rw [if_pos rfl] at H; exact H
                    clear H
                    have H := H1
                    clear H1
                    have H' := Aside0.mk H
                    clear H
                    go_wp2
                    go_roundg k2
                    case measure => have := HJ5.out; have := HK2.out; omega
                    case rel => exact ⟨(true), (wrap64 (x14_2 + 1)), (by first | rfl | (simp; done) | (simp [*]; done)), (by first | rfl | (simp; done) | (simp [*]; done)), H', ⟨by have := HJ5.out; have := HK2.out; omega⟩, ⟨by (with_reducible repeat (first | apply Kd.R_alloc | apply Kd.R_drewN | apply Kd.R_drew)); exact HO_225001.out⟩, ⟨by (with_reducible repeat (first | apply Kd.R_alloc | apply Kd.R_drewN | apply Kd.R_drew)); exact HO_229001.out⟩, ⟨by (with_reducible repeat (first | refine blk_drewN ?_ _ | refine blk_drew ?_ | refine blk_alloc ?_ _)); exact BK224.out⟩, ⟨by (with_reducible repeat (first | refine blk_drewN ?_ _ | refine blk_drew ?_ | refine blk_alloc ?_ _)); exact BK228.out⟩, ⟨by repeat (first | (with_reducible first | exact HB.out | apply below_alloc | apply pw_below_drewN | apply below_drew1 | refine below_set ?_ GE224.out | refine below_set ?_ GE228.out) | exact HB.out)⟩⟩
                  · replace c31 := Bool.eq_false_iff.mpr c31
                    subst c31
                    have H1 : (if 0 ≤ x14_2 then (if x14_2 ≤ (wrap64 (x14_2 + (a3.size : Int))) then (verbatimlaw20_EvalParts.l0 k2 a0 a1 a2 a3 t220 t232 (((a0 ++ a1).extract (x14_2 : Int).toNat ((wrap64 (x14_2 + (a3.size : Int))) : Int).toNat).toList == a3.toList) (wrap64 (x14_2 + 1)) 1 y221 2 y225) else (none)) else (none)) = some r := by rw [if_neg (show ¬ (false = true) by decide)] at H; exact H
                    clear H
                    have H := H1
                    clear H1
                    by_cases c32 : 0 ≤ x14_2
                    · rw [if_pos c32] at H
                      have c32b0 := eq_true c32
                      have c32b1 : decide (0 ≤ x14_2) = true := decide_eq_true c32
                      clear c32
                      by_cases c33 : x14_2 ≤ (wrap64 (x14_2 + (a3.size : Int)))
                      · rw [if_pos c33] at H
                        have c33b0 := eq_true c33
                        have c33b1 : decide (x14_2 ≤ (wrap64 (x14_2 + (a3.size : Int)))) = true := decide_eq_true c33
                        have c34b0 := eq_true (of_decide_eq_true (by first | (with_reducible assumption) | assumption) : (wrap64 (x14_2 + (a3.size : Int))) ≤ ((a0.size : Int) + (a1.size : Int)))
                        have H' := Aside0.mk H
                        clear H
                        go_wp2
                        go_roundg k2
                        case measure => have := HJ5.out; have := HK2.out; omega
                        case rel => exact ⟨((((a0 ++ a1).extract (x14_2 : Int).toNat ((wrap64 (x14_2 + (a3.size : Int))) : Int).toNat).toList == a3.toList)), (wrap64 (x14_2 + 1)), (by first | rfl | (simp; done) | (simp [*]; done)), (by first | rfl | (simp; done) | (simp [*]; done)), H', ⟨by have := HJ5.out; have := HK2.out; omega⟩, ⟨by (with_reducible repeat (first | apply Kd.R_alloc | apply Kd.R_drewN | apply Kd.R_drew)); exact HO_225001.out⟩, ⟨by (with_reducible repeat (first | apply Kd.R_alloc | apply Kd.R_drewN | apply Kd.R_drew)); exact HO_229001.out⟩, ⟨by (with_reducible repeat (first | refine blk_drewN ?_ _ | refine blk_drew ?_ | refine blk_alloc ?_ _)); exact BK224.out⟩, ⟨by (with_reducible repeat (first | refine blk_drewN ?_ _ | refine blk_drew ?_ | refine blk_alloc ?_ _)); exact BK228.out⟩, ⟨by repeat (first | (with_reducible first | exact HB.out | apply below_alloc | apply pw_below_drewN | apply below_drew1 | refine below_set ?_ GE224.out | refine below_set ?_ GE228.out) | exact HB.out)⟩⟩
                      · rw [if_neg c33] at H
                        exact absurd H (by simp)
                    · rw [if_neg c32] at H
                      exact absurd H (by simp)
                · rw [if_neg c30] at H
                  have c30b0 : decide ((wrap64 (x14_2 + (a3.size : Int))) ≤ ((a0.size : Int) + (a1.size : Int))) = false := decide_eq_false c30
                  clear c30
                  by_cases c35 : t220 = true
                  · subst c35
                    have H1 : (if (a0 ++ a1).size + a2.size ≤ 9223372036854775807 then ((eval_Match.f k2 1 y221 ([] : List (S40)) ((a0 ++ a1) ++ a2)).bind fun t233 => (if t233 = true then (if a1.size + a2.size ≤ 9223372036854775807 then ((eval_Match.f k2 2 y225 ([] : List (S40)) (a1 ++ a2)).bind fun t234 => (if t234 = true then (some (t232 == x13_2)) else (some false))) else (none)) else (some false))) else (none)) = some r := by rw [if_pos rfl] at H; exact H
                    clear H
                    have H := H1
                    clear H1
                    by_cases c36 : (a0 ++ a1).size + a2.size ≤ 9223372036854775807
                    · rw [if_pos c36] at H
                      have c36b0 := eq_true c36
                      have c36b1 : decide ((a0 ++ a1).size + a2.size ≤ 9223372036854775807) = true := decide_eq_true c36
                      (try have c36b1z := c36b1)
                      (try simp only [ByteArray.size_append, Int.natCast_add] at c36b1z)
                      try have c36b2 : (9223372036854775807 < (a0 ++ a1).size + a2.size) = False := eq_false (Nat.not_lt.2 c36)
                      replace H := Option.bind_eq_some_iff.mp H
                      obtain ⟨t233, A370, H⟩ := H
                      replace H : (if t233 = true then (if a1.size + a2.size ≤ 9223372036854775807 then ((eval_Match.f k2 2 y225 ([] : List (S40)) (a1 ++ a2)).bind fun t234 => (if t234 = true then (some (t232 == x13_2)) else (some false))) else (none)) else (some false)) = some r := H
                      have A37 := Aside0.mk A370
                      clear A370
                      by_cases c38 : t233 = true
                      · subst c38
                        have H1 : (if a1.size + a2.size ≤ 9223372036854775807 then ((eval_Match.f k2 2 y225 ([] : List (S40)) (a1 ++ a2)).bind fun t234 => (if t234 = true then (some (t232 == x13_2)) else (some false))) else (none)) = some r := by rw [if_pos rfl] at H; exact H
                        clear H
                        have H := H1
                        clear H1
                        by_cases c39 : a1.size + a2.size ≤ 9223372036854775807
                        · rw [if_pos c39] at H
                          have c39b0 := eq_true c39
                          have c39b1 : decide (a1.size + a2.size ≤ 9223372036854775807) = true := decide_eq_true c39
                          try have c39b2 : (9223372036854775807 < a1.size + a2.size) = False := eq_false (Nat.not_lt.2 c39)
                          replace H := Option.bind_eq_some_iff.mp H
                          obtain ⟨t234, A400, H⟩ := H
                          replace H : (if t234 = true then (some (t232 == x13_2)) else (some false)) = some r := H
                          have A40 := Aside0.mk A400
                          clear A400
                          by_cases c41 : t234 = true
                          · subst c41
                            have H1 : (some (t232 == x13_2)) = some r := by rw [if_pos rfl] at H; exact H
                            clear H
                            have H := H1
                            clear H1
                            obtain rfl := Option.some.inj H
                            have hnb42 := NB224_228.out
                            have hnc42 := NB228_224.out
                            have hcz43_0 : wr.cell? ⟨gb224, 0, none⟩ = some (.int .i64 1) := (blk_cell BK224.out 0).trans rfl
                            have hcz43_1 : wr.cell? ⟨gb224, 1, none⟩ = some (.slice Ao16 y221.length co16) := (blk_cell BK224.out 1).trans rfl
                            have hcz43_2 : wr.cell? ⟨gb224, 2, none⟩ = some (.slice none 0 0) := (blk_cell BK224.out 2).trans rfl
                            have hfz43_0 := blk_frozen BK224.out 0
                            have hfz43_1 := blk_frozen BK224.out 1
                            have hfz43_2 := blk_frozen BK224.out 2
                            go_wp2_with (first | (go_at_call 25; (with_reducible refine calls_of_args (args' := #[.agg #[.int .i64 1, .slice Ao16 y221.length co16, .slice none 0 0], .string ((a0 ++ a1) ++ a2)]) rfl ?_); (refine (eval_Match.calls k2 1 _ _ y221 _ _ ([] : List (S40)) ((a0 ++ a1) ++ a2) true _ ?side1 ?side2 ?side3 ?side4 ?side5 A37.out).mono ?_); (case side1 => first | exact GlobOk.below HG.out (by repeat (first | (with_reducible first | exact HB.out | apply below_alloc | apply pw_below_drewN | apply below_drew1 | refine below_set ?_ GE224.out | refine below_set ?_ GE228.out) | exact HB.out)) | (repeat (first | exact HG.out | (with_reducible refine GlobOk.alloc ?_ _) | (with_reducible refine GlobOk.drewN ?_ _) | (with_reducible refine GlobOk.drew ?_)))); (case side2 => repeat (first | exact (Kd.R_reads' HO_225001.out).2.2 | (with_reducible refine Kd.C_alloc ?_ _) | (with_reducible refine Kd.C_drewN ?_ _) | (with_reducible refine Kd.C_drew ?_))); (case side3 => exact (Kd.R_reads' HO_225001.out).2.1); (case side4 => exact Kd.C_nil _ _); (case side5 => exact Nat.le_refl _); rintro e w44 ⟨rfl, hb⟩; have n0_ := Aside0.mk (Kd.R_below (by (with_reducible repeat (first | apply Kd.R_alloc | apply Kd.R_drewN | apply Kd.R_drew)); exact HO_225001.out) hb); have n1_ := Aside0.mk (Kd.R_below (by (with_reducible repeat (first | apply Kd.R_alloc | apply Kd.R_drewN | apply Kd.R_drew)); exact HO_229001.out) hb); have n2_ := Aside0.mk (blk_below (g := gb224) (o := .cells #[.int .i64 1, .slice Ao16 y221.length co16, .slice none 0 0] 40 (0, 0)) (by (with_reducible repeat (first | refine blk_drewN ?_ _ | refine blk_drew ?_ | refine blk_alloc ?_ _)); exact BK224.out) hb); have n3_ := Aside0.mk (blk_below (g := gb228) (o := .cells #[.int .i64 2, .slice Ao21 y225.length co21, .slice none 0 0] 40 (0, 0)) (by (with_reducible repeat (first | refine blk_drewN ?_ _ | refine blk_drew ?_ | refine blk_alloc ?_ _)); exact BK228.out) hb); have n4_ := Aside0.mk (below_step (by repeat (first | (with_reducible first | exact HB.out | apply below_alloc | apply pw_below_drewN | apply below_drew1 | refine below_set ?_ GE224.out | refine below_set ?_ GE228.out) | exact HB.out)) hb); clear HO_225001; clear HO_229001; clear BK224; clear BK228; clear HB; have HO_225001 := n0_; have HO_229001 := n1_; have BK224 := n2_; have BK228 := n3_; have HB := n4_; clear n0_ n1_ n2_ n3_ n4_; (try clear hb); (try clear hb2); (try clear hk); (try clear hi); have hcz45_0 : w44.cell? ⟨gb228, 0, none⟩ = some (.int .i64 2) := (blk_cell BK228.out 0).trans rfl; have hcz45_1 : w44.cell? ⟨gb228, 1, none⟩ = some (.slice Ao21 y225.length co21) := (blk_cell BK228.out 1).trans rfl; have hcz45_2 : w44.cell? ⟨gb228, 2, none⟩ = some (.slice none 0 0) := (blk_cell BK228.out 2).trans rfl; have hfz45_0 := blk_frozen BK228.out 0; have hfz45_1 := blk_frozen BK228.out 1; have hfz45_2 := blk_frozen BK228.out 2) | (go_at_call 25; (with_reducible refine calls_of_args (args' := #[.agg #[.int .i64 2, .slice Ao21 y225.length co21, .slice none 0 0], .string (a1 ++ a2)]) rfl ?_); (refine (eval_Match.calls k2 2 _ _ y225 _ _ ([] : List (S40)) (a1 ++ a2) true _ ?side1 ?side2 ?side3 ?side4 ?side5 A40.out).mono ?_); (case side1 => first | exact GlobOk.below HG.out (by repeat (first | (with_reducible first | exact HB.out | apply below_alloc | apply pw_below_drewN | apply below_drew1 | refine below_set ?_ GE224.out | refine below_set ?_ GE228.out) | exact HB.out)) | (repeat (first | exact HG.out | (with_reducible refine GlobOk.alloc ?_ _) | (with_reducible refine GlobOk.drewN ?_ _) | (with_reducible refine GlobOk.drew ?_)))); (case side2 => repeat (first | exact (Kd.R_reads' HO_229001.out).2.2 | (with_reducible refine Kd.C_alloc ?_ _) | (with_reducible refine Kd.C_drewN ?_ _) | (with_reducible refine Kd.C_drew ?_))); (case side3 => exact (Kd.R_reads' HO_229001.out).2.1); (case side4 => exact Kd.C_nil _ _); (case side5 => exact Nat.le_refl _); rintro e w46 ⟨rfl, hb⟩; have n0_ := Aside0.mk (Kd.R_below (by (with_reducible repeat (first | apply Kd.R_alloc | apply Kd.R_drewN | apply Kd.R_drew)); exact HO_225001.out) hb); have n1_ := Aside0.mk (Kd.R_below (by (with_reducible repeat (first | apply Kd.R_alloc | apply Kd.R_drewN | apply Kd.R_drew)); exact HO_229001.out) hb); have n2_ := Aside0.mk (blk_below (g := gb224) (o := .cells #[.int .i64 1, .slice Ao16 y221.length co16, .slice none 0 0] 40 (0, 0)) (by (with_reducible repeat (first | refine blk_drewN ?_ _ | refine blk_drew ?_ | refine blk_alloc ?_ _)); exact BK224.out) hb); have n3_ := Aside0.mk (blk_below (g := gb228) (o := .cells #[.int .i64 2, .slice Ao21 y225.length co21, .slice none 0 0] 40 (0, 0)) (by (with_reducible repeat (first | refine blk_drewN ?_ _ | refine blk_drew ?_ | refine blk_alloc ?_ _)); exact BK228.out) hb); have n4_ := Aside0.mk (below_step (by repeat (first | (with_reducible first | exact HB.out | apply below_alloc | apply pw_below_drewN | apply below_drew1 | refine below_set ?_ GE224.out | refine below_set ?_ GE228.out) | exact HB.out)) hb); clear HO_225001; clear HO_229001; clear BK224; clear BK228; clear HB; have HO_225001 := n0_; have HO_229001 := n1_; have BK224 := n2_; have BK228 := n3_; have HB := n4_; clear n0_ n1_ n2_ n3_ n4_; (try clear hb); (try clear hb2); (try clear hk); (try clear hi)))
                            go_ret
                            exact ⟨by first | rfl | (simp [errW_none, errW_some] <;> rfl) | (simp [*, errW_none, errW_some] <;> rfl), by repeat (first | (with_reducible first | exact HB.out | apply below_alloc | apply pw_below_drewN | apply below_drew1 | refine below_set ?_ GE224.out | refine below_set ?_ GE228.out) | exact HB.out)⟩
                          · replace c41 := Bool.eq_false_iff.mpr c41
                            subst c41
                            have H1 : (some false) = some r := by rw [if_neg (show ¬ (false = true) by decide)] at H; exact H
                            clear H
                            have H := H1
                            clear H1
                            obtain rfl := Option.some.inj H
                            have hnb47 := NB224_228.out
                            have hnc47 := NB228_224.out
                            have hcz48_0 : wr.cell? ⟨gb224, 0, none⟩ = some (.int .i64 1) := (blk_cell BK224.out 0).trans rfl
                            have hcz48_1 : wr.cell? ⟨gb224, 1, none⟩ = some (.slice Ao16 y221.length co16) := (blk_cell BK224.out 1).trans rfl
                            have hcz48_2 : wr.cell? ⟨gb224, 2, none⟩ = some (.slice none 0 0) := (blk_cell BK224.out 2).trans rfl
                            have hfz48_0 := blk_frozen BK224.out 0
                            have hfz48_1 := blk_frozen BK224.out 1
                            have hfz48_2 := blk_frozen BK224.out 2
                            go_wp2_with (first | (go_at_call 25; (with_reducible refine calls_of_args (args' := #[.agg #[.int .i64 1, .slice Ao16 y221.length co16, .slice none 0 0], .string ((a0 ++ a1) ++ a2)]) rfl ?_); (refine (eval_Match.calls k2 1 _ _ y221 _ _ ([] : List (S40)) ((a0 ++ a1) ++ a2) true _ ?side1 ?side2 ?side3 ?side4 ?side5 A37.out).mono ?_); (case side1 => first | exact GlobOk.below HG.out (by repeat (first | (with_reducible first | exact HB.out | apply below_alloc | apply pw_below_drewN | apply below_drew1 | refine below_set ?_ GE224.out | refine below_set ?_ GE228.out) | exact HB.out)) | (repeat (first | exact HG.out | (with_reducible refine GlobOk.alloc ?_ _) | (with_reducible refine GlobOk.drewN ?_ _) | (with_reducible refine GlobOk.drew ?_)))); (case side2 => repeat (first | exact (Kd.R_reads' HO_225001.out).2.2 | (with_reducible refine Kd.C_alloc ?_ _) | (with_reducible refine Kd.C_drewN ?_ _) | (with_reducible refine Kd.C_drew ?_))); (case side3 => exact (Kd.R_reads' HO_225001.out).2.1); (case side4 => exact Kd.C_nil _ _); (case side5 => exact Nat.le_refl _); rintro e w49 ⟨rfl, hb⟩; have n0_ := Aside0.mk (Kd.R_below (by (with_reducible repeat (first | apply Kd.R_alloc | apply Kd.R_drewN | apply Kd.R_drew)); exact HO_225001.out) hb); have n1_ := Aside0.mk (Kd.R_below (by (with_reducible repeat (first | apply Kd.R_alloc | apply Kd.R_drewN | apply Kd.R_drew)); exact HO_229001.out) hb); have n2_ := Aside0.mk (blk_below (g := gb224) (o := .cells #[.int .i64 1, .slice Ao16 y221.length co16, .slice none 0 0] 40 (0, 0)) (by (with_reducible repeat (first | refine blk_drewN ?_ _ | refine blk_drew ?_ | refine blk_alloc ?_ _)); exact BK224.out) hb); have n3_ := Aside0.mk (blk_below (g := gb228) (o := .cells #[.int .i64 2, .slice Ao21 y225.length co21, .slice none 0 0] 40 (0, 0)) (by (with_reducible repeat (first | refine blk_drewN ?_ _ | refine blk_drew ?_ | refine blk_alloc ?_ _)); exact BK228.out) hb); have n4_ := Aside0.mk (below_step (by repeat (first | (with_reducible first | exact HB.out | apply below_alloc | apply pw_below_drewN | apply below_drew1 | refine below_set ?_ GE224.out | refine below_set ?_ GE228.out) | exact HB.out)) hb); clear HO_225001; clear HO_229001; clear BK224; clear BK228; clear HB; have HO_225001 := n0_; have HO_229001 := n1_; have BK224 := n2_; have BK228 := n3_; have HB := n4_; clear n0_ n1_ n2_ n3_ n4_; (try clear hb); (try clear hb2); (try clear hk); (try clear hi); have hcz50_0 : w49.cell? ⟨gb228, 0, none⟩ = some (.int .i64 2) := (blk_cell BK228.out 0).trans rfl; have hcz50_1 : w49.cell? ⟨gb228, 1, none⟩ = some (.slice Ao21 y225.length co21) := (blk_cell BK228.out 1).trans rfl; have hcz50_2 : w49.cell? ⟨gb228, 2, none⟩ = some (.slice none 0 0) := (blk_cell BK228.out 2).trans rfl; have hfz50_0 := blk_frozen BK228.out 0; have hfz50_1 := blk_frozen BK228.out 1; have hfz50_2 := blk_frozen BK228.out 2) | (go_at_call 25; (with_reducible refine calls_of_args (args' := #[.agg #[.int .i64 2, .slice Ao21 y225.length co21, .slice none 0 0], .string (a1 ++ a2)]) rfl ?_); (refine (eval_Match.calls k2 2 _ _ y225 _ _ ([] : List (S40)) (a1 ++ a2) false _ ?side1 ?side2 ?side3 ?side4 ?side5 A40.out).mono ?_); (case side1 => first | exact GlobOk.below HG.out (by repeat (first | (with_reducible first | exact HB.out | apply below_alloc | apply pw_below_drewN | apply below_drew1 | refine below_set ?_ GE224.out | refine below_set ?_ GE228.out) | exact HB.out)) | (repeat (first | exact HG.out | (with_reducible refine GlobOk.alloc ?_ _) | (with_reducible refine GlobOk.drewN ?_ _) | (with_reducible refine GlobOk.drew ?_)))); (case side2 => repeat (first | exact (Kd.R_reads' HO_229001.out).2.2 | (with_reducible refine Kd.C_alloc ?_ _) | (with_reducible refine Kd.C_drewN ?_ _) | (with_reducible refine Kd.C_drew ?_))); (case side3 => exact (Kd.R_reads' HO_229001.out).2.1); (case side4 => exact Kd.C_nil _ _); (case side5 => exact Nat.le_refl _); rintro e w51 ⟨rfl, hb⟩; have n0_ := Aside0.mk (Kd.R_below (by (with_reducible repeat (first | apply Kd.R_alloc | apply Kd.R_drewN | apply Kd.R_drew)); exact HO_225001.out) hb); have n1_ := Aside0.mk (Kd.R_below (by (with_reducible repeat (first | apply Kd.R_alloc | apply Kd.R_drewN | apply Kd.R_drew)); exact HO_229001.out) hb); have n2_ := Aside0.mk (blk_below (g := gb224) (o := .cells #[.int .i64 1, .slice Ao16 y221.length co16, .slice none 0 0] 40 (0, 0)) (by (with_reducible repeat (first | refine blk_drewN ?_ _ | refine blk_drew ?_ | refine blk_alloc ?_ _)); exact BK224.out) hb); have n3_ := Aside0.mk (blk_below (g := gb228) (o := .cells #[.int .i64 2, .slice Ao21 y225.length co21, .slice none 0 0] 40 (0, 0)) (by (with_reducible repeat (first | refine blk_drewN ?_ _ | refine blk_drew ?_ | refine blk_alloc ?_ _)); exact BK228.out) hb); have n4_ := Aside0.mk (below_step (by repeat (first | (with_reducible first | exact HB.out | apply below_alloc | apply pw_below_drewN | apply below_drew1 | refine below_set ?_ GE224.out | refine below_set ?_ GE228.out) | exact HB.out)) hb); clear HO_225001; clear HO_229001; clear BK224; clear BK228; clear HB; have HO_225001 := n0_; have HO_229001 := n1_; have BK224 := n2_; have BK228 := n3_; have HB := n4_; clear n0_ n1_ n2_ n3_ n4_; (try clear hb); (try clear hb2); (try clear hk); (try clear hi)))
                            go_ret
                            exact ⟨by first | rfl | (simp [errW_none, errW_some] <;> rfl) | (simp [*, errW_none, errW_some] <;> rfl), by repeat (first | (with_reducible first | exact HB.out | apply below_alloc | apply pw_below_drewN | apply below_drew1 | refine below_set ?_ GE224.out | refine below_set ?_ GE228.out) | exact HB.out)⟩
                        · rw [if_neg c39] at H
                          exact absurd H (by simp)
                      · replace c38 := Bool.eq_false_iff.mpr c38
                        subst c38
                        have H1 : (some false) = some r := by rw [if_neg (show ¬ (false = true) by decide)] at H; exact H
                        clear H
                        have H := H1
                        clear H1
                        obtain rfl := Option.some.inj H
                        have hnb52 := NB224_228.out
                        have hnc52 := NB228_224.out
                        have hcz53_0 : wr.cell? ⟨gb224, 0, none⟩ = some (.int .i64 1) := (blk_cell BK224.out 0).trans rfl
                        have hcz53_1 : wr.cell? ⟨gb224, 1, none⟩ = some (.slice Ao16 y221.length co16) := (blk_cell BK224.out 1).trans rfl
                        have hcz53_2 : wr.cell? ⟨gb224, 2, none⟩ = some (.slice none 0 0) := (blk_cell BK224.out 2).trans rfl
                        have hfz53_0 := blk_frozen BK224.out 0
                        have hfz53_1 := blk_frozen BK224.out 1
                        have hfz53_2 := blk_frozen BK224.out 2
                        go_wp2_with (first | (go_at_call 25; (with_reducible refine calls_of_args (args' := #[.agg #[.int .i64 1, .slice Ao16 y221.length co16, .slice none 0 0], .string ((a0 ++ a1) ++ a2)]) rfl ?_); (refine (eval_Match.calls k2 1 _ _ y221 _ _ ([] : List (S40)) ((a0 ++ a1) ++ a2) false _ ?side1 ?side2 ?side3 ?side4 ?side5 A37.out).mono ?_); (case side1 => first | exact GlobOk.below HG.out (by repeat (first | (with_reducible first | exact HB.out | apply below_alloc | apply pw_below_drewN | apply below_drew1 | refine below_set ?_ GE224.out | refine below_set ?_ GE228.out) | exact HB.out)) | (repeat (first | exact HG.out | (with_reducible refine GlobOk.alloc ?_ _) | (with_reducible refine GlobOk.drewN ?_ _) | (with_reducible refine GlobOk.drew ?_)))); (case side2 => repeat (first | exact (Kd.R_reads' HO_225001.out).2.2 | (with_reducible refine Kd.C_alloc ?_ _) | (with_reducible refine Kd.C_drewN ?_ _) | (with_reducible refine Kd.C_drew ?_))); (case side3 => exact (Kd.R_reads' HO_225001.out).2.1); (case side4 => exact Kd.C_nil _ _); (case side5 => exact Nat.le_refl _); rintro e w54 ⟨rfl, hb⟩; have n0_ := Aside0.mk (Kd.R_below (by (with_reducible repeat (first | apply Kd.R_alloc | apply Kd.R_drewN | apply Kd.R_drew)); exact HO_225001.out) hb); have n1_ := Aside0.mk (Kd.R_below (by (with_reducible repeat (first | apply Kd.R_alloc | apply Kd.R_drewN | apply Kd.R_drew)); exact HO_229001.out) hb); have n2_ := Aside0.mk (blk_below (g := gb224) (o := .cells #[.int .i64 1, .slice Ao16 y221.length co16, .slice none 0 0] 40 (0, 0)) (by (with_reducible repeat (first | refine blk_drewN ?_ _ | refine blk_drew ?_ | refine blk_alloc ?_ _)); exact BK224.out) hb); have n3_ := Aside0.mk (blk_below (g := gb228) (o := .cells #[.int .i64 2, .slice Ao21 y225.length co21, .slice none 0 0] 40 (0, 0)) (by (with_reducible repeat (first | refine blk_drewN ?_ _ | refine blk_drew ?_ | refine blk_alloc ?_ _)); exact BK228.out) hb); have n4_ := Aside0.mk (below_step (by repeat (first | (with_reducible first | exact HB.out | apply below_alloc | apply pw_below_drewN | apply below_drew1 | refine below_set ?_ GE224.out | refine below_set ?_ GE228.out) | exact HB.out)) hb); clear HO_225001; clear HO_229001; clear BK224; clear BK228; clear HB; have HO_225001 := n0_; have HO_229001 := n1_; have BK224 := n2_; have BK228 := n3_; have HB := n4_; clear n0_ n1_ n2_ n3_ n4_; (try clear hb); (try clear hb2); (try clear hk); (try clear hi)))
                        go_ret
                        exact ⟨by first | rfl | (simp [errW_none, errW_some] <;> rfl) | (simp [*, errW_none, errW_some] <;> rfl), by repeat (first | (with_reducible first | exact HB.out | apply below_alloc | apply pw_below_drewN | apply below_drew1 | refine below_set ?_ GE224.out | refine below_set ?_ GE228.out) | exact HB.out)⟩
                    · rw [if_neg c36] at H
                      exact absurd H (by simp)
                  · replace c35 := Bool.eq_false_iff.mpr c35
                    subst c35
                    have H1 : (some false) = some r := by rw [if_neg (show ¬ (false = true) by decide)] at H; exact H
                    clear H
                    have H := H1
                    clear H1
                    obtain rfl := Option.some.inj H
                    go_wp2
                    go_ret
                    exact ⟨by first | rfl | (simp [errW_none, errW_some] <;> rfl) | (simp [*, errW_none, errW_some] <;> rfl), by repeat (first | (with_reducible first | exact HB.out | apply below_alloc | apply pw_below_drewN | apply below_drew1 | refine below_set ?_ GE224.out | refine below_set ?_ GE228.out) | exact HB.out)⟩
              · rw [if_neg c29] at H
                exact absurd H (by simp)
        · rw [if_neg c12] at H
          exact absurd H (by simp)

/-- THE ONE PURE STATEMENT of verbatimlaw20_EvalParts. -/
def verbatimlaw20_EvalParts.Pure : Prop := ∀ (a0 : ByteArray) (a1 : ByteArray) (a2 : ByteArray) (a3 : ByteArray), a0.size ≤ 140737488351232 → a1.size ≤ 140737488351232 → a2.size ≤ 140737488351232 → a3.size ≤ 140737488351232 → ∃ k, verbatimlaw20_EvalParts.f k a0 a1 a2 a3 = some true

end Go.Proofs.Ytbbgnapepkenaaa.E
