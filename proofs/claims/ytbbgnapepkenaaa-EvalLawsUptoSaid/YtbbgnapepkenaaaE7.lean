-- Written for this claim by a program of this session (over the kit's print tool): functions as Lean functions, their contracts, rows. Lean checks it.
import Derived.Test.YtbbgnapepkenaaaE0
namespace Go.Proofs.Ytbbgnapepkenaaa.E
open Go.RowKit Go.Proofs.YtbbgnapepkenaaaW.PrintWords Go.Proofs.YtbbgnapepkenaaaW.PrintLast Go.Proofs.YtbbgnapepkenaaaW.PrintMore
attribute [local go_sem] max2_int min2_int max_two min_two max_three min_three max_four min_four   -- for this text's walks alone
set_option linter.unusedVariables false
set_option linter.unusedSimpArgs false

/-! ### verbatimlaw20_deep: function 27 -/
mutual
def verbatimlaw20_deep.l0 : Nat → Int → Int → Int → List ByteArray → List (S40) → Option (Bool)
 | 0, _, _, _, _, _ => none
 | k + 1, x1, x5, x176000, x176001, x176002 => if x5 < (x176002.length : Int) then (if 0 ≤ x5 then ((verbatimlaw20_deep.f k ((rd_T40 x176002 x5).f0) ((rd_T40 x176002 x5).f1) ((rd_T40 x176002 x5).f2) (wrap64 (x1 - 1))).bind fun t177 => (if t177 = true then (some true) else (verbatimlaw20_deep.l0 k x1 (wrap64 (x5 + 1)) x176000 x176001 x176002))) else (none)) else (some false)
def verbatimlaw20_deep.f : Nat → Int → List ByteArray → List (S40) → Int → Option (Bool)
 | 0, _, _, _, _ => none
 | k + 1, a0_0, l0_1, l0_2, a1 => if a1 < 0 then (some true) else (verbatimlaw20_deep.l0 k a1 0 a0_0 l0_1 l0_2)
end
theorem verbatimlaw20_deep.mono_l : ∀ k, (∀ y0 y1 y2 y3, LeO (verbatimlaw20_deep.f k y0 y1 y2 y3) (verbatimlaw20_deep.f (k + 1) y0 y1 y2 y3)) ∧ (∀ y0 y1 y2 y3 y4, LeO (verbatimlaw20_deep.l0 k y0 y1 y2 y3 y4) (verbatimlaw20_deep.l0 (k + 1) y0 y1 y2 y3 y4))
 | 0 => ⟨fun _ _ _ _ r h => by simp [verbatimlaw20_deep.f] at h, fun _ _ _ _ _ r h => by simp [verbatimlaw20_deep.l0] at h⟩
 | k + 1 => by
  obtain ⟨ih0, ih1⟩ := verbatimlaw20_deep.mono_l k
  refine ⟨?_, ?_⟩
  ·intro y0 y1 y2 y3
   unfold verbatimlaw20_deep.f
   repeat' first
   | (with_reducible exact ih0 _ _ _ _)
   | (with_reducible exact ih1 _ _ _ _ _)
   | (with_reducible exact LeO.refl _)
   | (with_reducible exact LeO.none _)
   | (with_reducible refine LeO.ite ?_ ?_)
   | (with_reducible refine LeO.bind ?_ (fun _ => ?_))
   | exact ih0 _ _ _ _
   | exact ih1 _ _ _ _ _
   | exact LeO.none _
   | refine LeO.ite ?_ ?_
   | refine LeO.bind ?_ (fun _ => ?_)
  ·intro y0 y1 y2 y3 y4
   unfold verbatimlaw20_deep.l0
   repeat' first
   | (with_reducible exact ih0 _ _ _ _)
   | (with_reducible exact ih1 _ _ _ _ _)
   | (with_reducible exact LeO.refl _)
   | (with_reducible exact LeO.none _)
   | (with_reducible refine LeO.ite ?_ ?_)
   | (with_reducible refine LeO.bind ?_ (fun _ => ?_))
   | exact ih0 _ _ _ _
   | exact ih1 _ _ _ _ _
   | exact LeO.none _
   | refine LeO.ite ?_ ?_
   | refine LeO.bind ?_ (fun _ => ?_)
theorem verbatimlaw20_deep.mono : ∀ a0 a1 a2 a3 k, LeO (verbatimlaw20_deep.f k a0 a1 a2 a3) (verbatimlaw20_deep.f (k + 1) a0 a1 a2 a3) := by
 intro a0 a1 a2 a3 k
 obtain ⟨ih0, ih1⟩ := verbatimlaw20_deep.mono_l k
 exact ih0 a0 a1 a2 a3
set_option maxHeartbeats 8000000 in
set_option maxRecDepth 100000 in
theorem verbatimlaw20_deep.calls (k : Nat) : ∀ (a0_0 : Int) (A0_1 : Option Addr) (c0_1 : Nat) (l0_1 : List ByteArray) (A0_2 : Option Addr) (c0_2 : Nat) (l0_2 : List (S40)) (a1 : Int) (r : Bool) (w : World) (hr0_1 : Kd.C Kd.string w A0_1 l0_1.length l0_1) (hc0_1 : l0_1.length ≤ c0_1) (hr0_2 : Kd.C k40 w A0_2 l0_2.length l0_2) (hc0_2 : l0_2.length ≤ c0_2) (h : verbatimlaw20_deep.f k a0_0 l0_1 l0_2 a1 = some r),
  Calls Try.prog 27 #[.agg #[.int .i64 a0_0, .slice A0_1 l0_1.length c0_1, .slice A0_2 l0_2.length c0_2], .int .i64 a1] w fun e w' => e = .returned (.bool r) ∧ Below w.heap.size w w' := by
 induction k using Nat.strongRecOn with
 | _ k ih =>
 intro a0_0 A0_1 c0_1 l0_1 A0_2 c0_2 l0_2 a1 r w hr0_1 hc0_1 hr0_2 hc0_2 h
 cases k with
 | zero => exact absurd h (by simp [verbatimlaw20_deep.f])
 | succ k =>
 simp only [verbatimlaw20_deep.f] at h
 have hu40 := Try.underlying40
 have HR0_1 := am hr0_1
 have HC0_1 := am hc0_1
 clear hr0_1 hc0_1
 have HR0_2 := am hr0_2
 have HC0_2 := am hc0_2
 clear hr0_2 hc0_2
 have HB := am (Below.refl w.heap.size w)
 have H : (if a1 < 0 then (some true) else (verbatimlaw20_deep.l0 k a1 0 a0_0 l0_1 l0_2)) = some r := h
 clear h
 by_cases c3 : a1 < 0
 ·rw [if_pos c3] at H
  have c3b0 : decide (a1 < 0) = true := decide_eq_true c3
  clear c3
  obtain rfl := Option.some.inj H
  go_enter Try.func27, Try.ntmps27
  go_wp2_with (first | ((with_reducible refine gate_dst (N := 2) rfl ?_); refine box_event ?hg (N := 2) ?hd (cs := #[.int .i64 a0_0, .slice A0_1 l0_1.length c0_1, .slice A0_2 l0_2.length c0_2]) (t := 40) ?hr ?_; (case hd => rfl); (case hg => rfl); (case hr => first | (go_simp; done) | (go_simp; rfl)); intro gb175 hg w4 hbox hb; have BK175 := am (hbox); have GW175 := am ((by rw [hg]; exact (below_size (lU HB.out)) : w.heap.size ≤ gb175)); have GE175 := am ((by rw [hg]; exact (below_size (lU HB.out)) : w.heap.size ≤ gb175)); replace HB := am (below_step (lU HB.out) hb); clear hb hbox hg))
  go_ret
  exact ⟨by first | rfl | (simp [errW_none, errW_some] <;> rfl) | (simp [*, errW_none, errW_some] <;> rfl), by repeat (first | (with_reducible first | exact HB.out | apply below_alloc | apply pw_below_drewN | apply below_drew1 | refine below_set ?_ GE175.out) | exact HB.out)⟩
 ·rw [if_neg c3] at H
  have c3b0 : decide (a1 < 0) = false := decide_eq_false c3
  clear c3
  have H' := am H
  clear H
  go_enter Try.func27, Try.ntmps27
  go_wp2_with (first | ((with_reducible refine gate_dst (N := 2) rfl ?_); refine box_event ?hg (N := 2) ?hd (cs := #[.int .i64 a0_0, .slice A0_1 l0_1.length c0_1, .slice A0_2 l0_2.length c0_2]) (t := 40) ?hr ?_; (case hd => rfl); (case hg => rfl); (case hr => first | (go_simp; done) | (go_simp; rfl)); intro gb175 hg w5 hbox hb; have BK175 := am (hbox); have GW175 := am ((by rw [hg]; exact (below_size (lU HB.out)) : w.heap.size ≤ gb175)); have GE175 := am ((by rw [hg]; exact (below_size (lU HB.out)) : w.heap.size ≤ gb175)); replace HB := am (below_step (lU HB.out) hb); clear hb hbox hg))
  go_loopg [5] k (fun kq v5 w' => ∃ (x5_1 : Int), v5 = .int .i64 x5_1 ∧ Aside0 (verbatimlaw20_deep.l0 kq a1 x5_1 a0_0 l0_1 l0_2 = some r) ∧ Aside0 (kq ≤ k) ∧ Aside0 (w'.heap[gb175]? = some (.cells #[.int .i64 a0_0, (.slice A0_1 l0_1.length c0_1), (.slice A0_2 l0_2.length c0_2)] 40 (0, 0))) ∧ Aside0 (Below w.heap.size w w'))
  case atStart => exact ⟨(0), (by first | rfl | (simp; done) | (simp [*]; done)), H', ⟨Nat.le_refl _⟩, ⟨by (with_reducible repeat (first | refine blk_drewN ?_ _ | refine blk_drew ?_ | refine blk_alloc ?_ _)); exact BK175.out⟩, ⟨by repeat (first | (with_reducible first | exact HB.out | apply below_alloc | apply pw_below_drewN | apply below_drew1 | refine below_set ?_ GE175.out) | exact HB.out)⟩⟩
  case round =>
   clear H'
   try clear c2
   try clear p2
   try clear c3
   try clear c3b0
   obtain ⟨x5_1, rfl, HA, HK1, BK175, HB⟩ := hrel
   cases gk with
   | zero => exact absurd HA.out (by simp [verbatimlaw20_deep.l0])
   | succ k1 =>
    have H := HA.out
    clear HA
    simp only [verbatimlaw20_deep.l0] at H
    by_cases c6 : x5_1 < (l0_2.length : Int)
    ·rw [if_pos c6] at H
     have c6b0 : decide (x5_1 < (l0_2.length : Int)) = true := decide_eq_true c6
     clear c6
     by_cases c7 : 0 ≤ x5_1
     ·rw [if_pos c7] at H
      have c7b0 : decide (0 ≤ x5_1) = true := decide_eq_true c7
      clear c7
      replace H := Option.bind_eq_some_iff.mp H
      obtain ⟨t177, A80, H⟩ := H
      replace H : (if t177 = true then (some true) else (verbatimlaw20_deep.l0 k1 a1 (wrap64 (x5_1 + 1)) a0_0 l0_1 l0_2)) = some r := H
      have A8 := am A80
      clear A80
      by_cases c9 : t177 = true
      ·subst c9
       have H1 : (some true) = some r := by rw [if_pos rfl] at H; exact H
       clear H
       have H := H1
       clear H1
       obtain rfl := Option.some.inj H
       have hcz10_0 : wr.cell? ⟨gb175, 0, none⟩ = some (.int .i64 a0_0) := (blk_cell BK175.out 0).trans rfl
       have hcz10_1 : wr.cell? ⟨gb175, 1, none⟩ = some (.slice A0_1 l0_1.length c0_1) := (blk_cell BK175.out 1).trans rfl
       have hcz10_2 : wr.cell? ⟨gb175, 2, none⟩ = some (.slice A0_2 l0_2.length c0_2) := (blk_cell BK175.out 2).trans rfl
       have hfz10_0 := blk_frozen BK175.out 0
       have hfz10_1 := blk_frozen BK175.out 1
       have hfz10_2 := blk_frozen BK175.out 2
       have p176 : 0 ≤ (x5_1 : Int) := of_decide_eq_true (by first | (with_reducible assumption) | assumption)
       have q176 : x5_1 < (l0_2.length : Int) := of_decide_eq_true (by first | (with_reducible assumption) | assumption)
       obtain ⟨ad176, A176_1, c176_1, A176_2, c176_2, e176, hx176_0, hx176_1, hx176_2, hl176_1, hi176_1, hl176_2, hi176_2⟩ := at_T40 HR0_2.out x5_1 p176 q176
       cases e176
       replace hx176_0 := (HB.out.cell (World.block_lt_of_cell? w _ hx176_0)).trans hx176_0
       replace hx176_1 := (HB.out.cell (World.block_lt_of_cell? w _ hx176_1)).trans hx176_1
       replace hx176_2 := (HB.out.cell (World.block_lt_of_cell? w _ hx176_2)).trans hx176_2
       have HR176_1 := am hi176_1
       have HC176_1 := am hl176_1
       clear hi176_1 hl176_1
       have HR176_2 := am hi176_2
       have HC176_2 := am hl176_2
       clear hi176_2 hl176_2
       replace p176 := eq_true p176
       replace q176 := eq_true q176
       go_wp2_with (first | ((with_reducible refine gate_callee (f := 27) rfl ?_); refine goesL_ (some 22) rfl rfl Try.func27 (by kernel_rfl) rfl #[.agg #[.int .i64 ((rd_T40 l0_2 x5_1).f0), .slice A176_1 ((rd_T40 l0_2 x5_1).f1).length c176_1, .slice A176_2 ((rd_T40 l0_2 x5_1).f2).length c176_2], .int .i64 (wrap64 (a1 - 1))] rfl (by (try simp only [List.map_toArray, List.map_cons, List.map_nil]); first | done | rfl | (simp only [List.length_drop, List.length_take]; rfl)) ?_; (with_reducible refine (ih k1 (by have := HK1.out; omega) ((rd_T40 l0_2 x5_1).f0) _ _ ((rd_T40 l0_2 x5_1).f1) _ _ ((rd_T40 l0_2 x5_1).f2) (wrap64 (a1 - 1)) true _ ?side1 ?side2 ?side3 ?side4 A8.out).mono ?_); (case side1 => repeat (first | exact (Kd.C_below HR176_1.out HB.out) | (with_reducible refine Kd.C_alloc ?_ _) | (with_reducible refine Kd.C_drewN ?_ _) | (with_reducible refine Kd.C_drew ?_))); (case side2 => exact HC176_1.out); (case side3 => repeat (first | exact (Kd.C_below HR176_2.out HB.out) | (with_reducible refine Kd.C_alloc ?_ _) | (with_reducible refine Kd.C_drewN ?_ _) | (with_reducible refine Kd.C_drew ?_))); (case side4 => exact HC176_2.out); rintro e w11 ⟨rfl, hb⟩; refine ⟨_, rfl, ?_⟩; replace BK175 := am (blk_below (bU BK175.out) hb); replace HB := am (below_step (by repeat first | exact lU HB.out | refine below_set ?_ GE175.out | apply below_alloc | apply pw_below_drewN | apply below_drew1) hb); (try clear hb); (try clear hb2); (try clear hk); (try clear hi)))
       go_ret
       exact ⟨by first | rfl | (simp [errW_none, errW_some] <;> rfl) | (simp [*, errW_none, errW_some] <;> rfl), by repeat (first | (with_reducible first | exact HB.out | apply below_alloc | apply pw_below_drewN | apply below_drew1 | refine below_set ?_ GE175.out) | exact HB.out)⟩
      ·replace c9 := Bool.eq_false_iff.mpr c9
       subst c9
       have H1 : (verbatimlaw20_deep.l0 k1 a1 (wrap64 (x5_1 + 1)) a0_0 l0_1 l0_2) = some r := by rw [if_neg (show ¬ (false = true) by decide)] at H; exact H
       clear H
       have H := H1
       clear H1
       have H' := am H
       clear H
       have hcz12_0 : wr.cell? ⟨gb175, 0, none⟩ = some (.int .i64 a0_0) := (blk_cell BK175.out 0).trans rfl
       have hcz12_1 : wr.cell? ⟨gb175, 1, none⟩ = some (.slice A0_1 l0_1.length c0_1) := (blk_cell BK175.out 1).trans rfl
       have hcz12_2 : wr.cell? ⟨gb175, 2, none⟩ = some (.slice A0_2 l0_2.length c0_2) := (blk_cell BK175.out 2).trans rfl
       have hfz12_0 := blk_frozen BK175.out 0
       have hfz12_1 := blk_frozen BK175.out 1
       have hfz12_2 := blk_frozen BK175.out 2
       have p176 : 0 ≤ (x5_1 : Int) := of_decide_eq_true (by first | (with_reducible assumption) | assumption)
       have q176 : x5_1 < (l0_2.length : Int) := of_decide_eq_true (by first | (with_reducible assumption) | assumption)
       obtain ⟨ad176, A176_1, c176_1, A176_2, c176_2, e176, hx176_0, hx176_1, hx176_2, hl176_1, hi176_1, hl176_2, hi176_2⟩ := at_T40 HR0_2.out x5_1 p176 q176
       cases e176
       replace hx176_0 := (HB.out.cell (World.block_lt_of_cell? w _ hx176_0)).trans hx176_0
       replace hx176_1 := (HB.out.cell (World.block_lt_of_cell? w _ hx176_1)).trans hx176_1
       replace hx176_2 := (HB.out.cell (World.block_lt_of_cell? w _ hx176_2)).trans hx176_2
       have HR176_1 := am hi176_1
       have HC176_1 := am hl176_1
       clear hi176_1 hl176_1
       have HR176_2 := am hi176_2
       have HC176_2 := am hl176_2
       clear hi176_2 hl176_2
       replace p176 := eq_true p176
       replace q176 := eq_true q176
       go_wp2_with (first | ((with_reducible refine gate_callee (f := 27) rfl ?_); refine goesL_ (some 22) rfl rfl Try.func27 (by kernel_rfl) rfl #[.agg #[.int .i64 ((rd_T40 l0_2 x5_1).f0), .slice A176_1 ((rd_T40 l0_2 x5_1).f1).length c176_1, .slice A176_2 ((rd_T40 l0_2 x5_1).f2).length c176_2], .int .i64 (wrap64 (a1 - 1))] rfl (by (try simp only [List.map_toArray, List.map_cons, List.map_nil]); first | done | rfl | (simp only [List.length_drop, List.length_take]; rfl)) ?_; (with_reducible refine (ih k1 (by have := HK1.out; omega) ((rd_T40 l0_2 x5_1).f0) _ _ ((rd_T40 l0_2 x5_1).f1) _ _ ((rd_T40 l0_2 x5_1).f2) (wrap64 (a1 - 1)) false _ ?side1 ?side2 ?side3 ?side4 A8.out).mono ?_); (case side1 => repeat (first | exact (Kd.C_below HR176_1.out HB.out) | (with_reducible refine Kd.C_alloc ?_ _) | (with_reducible refine Kd.C_drewN ?_ _) | (with_reducible refine Kd.C_drew ?_))); (case side2 => exact HC176_1.out); (case side3 => repeat (first | exact (Kd.C_below HR176_2.out HB.out) | (with_reducible refine Kd.C_alloc ?_ _) | (with_reducible refine Kd.C_drewN ?_ _) | (with_reducible refine Kd.C_drew ?_))); (case side4 => exact HC176_2.out); rintro e w13 ⟨rfl, hb⟩; refine ⟨_, rfl, ?_⟩; replace BK175 := am (blk_below (bU BK175.out) hb); replace HB := am (below_step (by repeat first | exact lU HB.out | refine below_set ?_ GE175.out | apply below_alloc | apply pw_below_drewN | apply below_drew1) hb); (try clear hb); (try clear hb2); (try clear hk); (try clear hi)))
       go_roundg k1
       case measure => have := HK1.out; omega
       case rel => exact ⟨(wrap64 (x5_1 + 1)), (by first | rfl | (simp; done) | (simp [*]; done)), H', ⟨by have := HK1.out; omega⟩, ⟨by (with_reducible repeat (first | refine blk_drewN ?_ _ | refine blk_drew ?_ | refine blk_alloc ?_ _)); exact BK175.out⟩, ⟨by repeat (first | (with_reducible first | exact HB.out | apply below_alloc | apply pw_below_drewN | apply below_drew1 | refine below_set ?_ GE175.out) | exact HB.out)⟩⟩
     ·rw [if_neg c7] at H
      exact absurd H (by simp)
    ·rw [if_neg c6] at H
     have c6b0 : decide (x5_1 < (l0_2.length : Int)) = false := decide_eq_false c6
     clear c6
     obtain rfl := Option.some.inj H
     have hcz14_0 : wr.cell? ⟨gb175, 0, none⟩ = some (.int .i64 a0_0) := (blk_cell BK175.out 0).trans rfl
     have hcz14_1 : wr.cell? ⟨gb175, 1, none⟩ = some (.slice A0_1 l0_1.length c0_1) := (blk_cell BK175.out 1).trans rfl
     have hcz14_2 : wr.cell? ⟨gb175, 2, none⟩ = some (.slice A0_2 l0_2.length c0_2) := (blk_cell BK175.out 2).trans rfl
     have hfz14_0 := blk_frozen BK175.out 0
     have hfz14_1 := blk_frozen BK175.out 1
     have hfz14_2 := blk_frozen BK175.out 2
     go_wp2
     go_ret
     exact ⟨by first | rfl | (simp [errW_none, errW_some] <;> rfl) | (simp [*, errW_none, errW_some] <;> rfl), by repeat (first | (with_reducible first | exact HB.out | apply below_alloc | apply pw_below_drewN | apply below_drew1 | refine below_set ?_ GE175.out) | exact HB.out)⟩

/-! ### verbatimlaw20_no: function 28 -/
def verbatimlaw20_no.f (a0_0 : Int) (l0_1 : List ByteArray) (l0_2 : List (S40)) : Option (Int × List ByteArray × (List (S40))) := some (6, ([] : List ByteArray), (([(⟨a0_0, l0_1, l0_2⟩ : S40)] : List (S40))))
set_option maxHeartbeats 8000000 in
set_option maxRecDepth 100000 in
theorem verbatimlaw20_no.calls (a0_0 : Int) (P0_1_ : Nat → Prop) (A0_1 : Option Addr) (c0_1 : Nat) (l0_1 : List ByteArray) (P0_2_ : Nat → Prop) (A0_2 : Option Addr) (c0_2 : Nat) (l0_2 : List (S40)) (r1 : Int) (r2 : List ByteArray) (r3 : List (S40)) (w : World) (hs0_1 : Kd.V Kd.string 9 w w.heap.size (fun k_ => P0_1_ k_) (.slice A0_1 l0_1.length c0_1) l0_1) (hs0_2 : Kd.V k40 40 w w.heap.size (fun k_ => P0_2_ k_) (.slice A0_2 l0_2.length c0_2) l0_2) (h : verbatimlaw20_no.f a0_0 l0_1 l0_2 = some (r1, r2, r3)) :
  Calls Try.prog 28 #[.agg #[.int .i64 a0_0, .slice A0_1 l0_1.length c0_1, .slice A0_2 l0_2.length c0_2]] w fun e w' => ∃ v1_ v2_ : Value, e = .returned (.agg #[.int .i64 r1, v1_, v2_]) ∧ Kd.R Kd.string 9 w' w.heap.size (fun k_ => (w.heap.size ≤ k_)) v1_ r2 ∧ Kd.N k40 40 w' w.heap.size (fun k_ => ((P0_1_ k_ ∨ P0_2_ k_) ∨ w.heap.size ≤ k_) ∧ some k_ ≠ (v1_ : Value).ownBlock) v2_ r3 ∧ Below w.heap.size w w' := by
 have hu40 := Try.underlying40
 have HO0_1 := am (show Kd.V Kd.string 9 w w.heap.size (fun k_ => ((P0_1_ k_ ∨ P0_2_ k_) ∨ w.heap.size ≤ k_)) (.slice A0_1 l0_1.length c0_1) l0_1 from Kd.V_mono hs0_1 (fun k_ hk => .inl (.inl hk)))
 have HO0_2 := am (show Kd.V k40 40 w w.heap.size (fun k_ => ((P0_1_ k_ ∨ P0_2_ k_) ∨ w.heap.size ≤ k_)) (.slice A0_2 l0_2.length c0_2) l0_2 from Kd.V_mono hs0_2 (fun k_ hk => .inl (.inr hk)))
 have HB := am (Below.refl w.heap.size w)
 have H : (some (6, ([] : List ByteArray), (([(⟨a0_0, l0_1, l0_2⟩ : S40)] : List (S40))))) = some (r1, r2, r3) := h
 clear h
 obtain ⟨y180, hy180⟩ : ∃ y_ : List (S40), y_ = (([(⟨a0_0, l0_1, l0_2⟩ : S40)] : List (S40))) := ⟨_, rfl⟩
 replace H : (some (6, ([] : List ByteArray), y180)) = some (r1, r2, r3) := by first | (rw [hy180]; with_reducible exact H) | (have H2_ := (Option.bind_some _ _).symm.trans H; rw [hy180]; with_reducible exact H2_) | (have H2_ := (Option.bind_some _ _).symm.trans H; with_reducible exact H2_) | with_reducible exact H | (rw [hy180]; exact H) | exact H
 have Ny180 := am hy180
 clear hy180
 simp only [Option.some.injEq, Prod.mk.injEq] at H
 obtain ⟨rfl, rfl, rfl⟩ := H
 go_enter Try.func28, Try.ntmps28
 go_wp2_with (first | ((with_reducible refine gate_dst (N := 1) rfl ?_); refine box_event ?hg (N := 1) ?hd (cs := #[.int .i64 a0_0, .slice A0_1 l0_1.length c0_1, .slice A0_2 l0_2.length c0_2]) (t := 40) ?hr ?_; (case hd => rfl); (case hg => rfl); (case hr => first | (go_simp; done) | (go_simp; rfl)); intro gb178 hg w2 hbox hb; replace HO0_1 := am (Kd.V_below (Kd.V_elderB (vU HO0_1.out) gb178 (Nat.le_of_eq hg.symm)) hb); replace HO0_2 := am (Kd.V_below (Kd.V_elderB (vU HO0_2.out) gb178 (Nat.le_of_eq hg.symm)) hb); have BK178 := am (hbox); have GW178 := am ((by rw [hg]; exact (below_size (lU HB.out)) : w.heap.size ≤ gb178)); have GE178 := am ((by rw [hg]; exact (below_size (lU HB.out)) : w.heap.size ≤ gb178)); replace HB := am (below_step (lU HB.out) hb); clear hb hbox hg) | ((with_reducible refine gate_dst (N := 2) rfl ?_); refine box_event ?hg (N := 2) ?hd (cs := #[.int .i64 0, .slice none 0 0, .slice none 0 0]) (t := 40) ?hr ?_; (case hd => rfl); (case hg => rfl); (case hr => first | (go_simp; done) | (go_simp; rfl)); intro gb179 hg w3 hbox hb; replace HO0_1 := am (Kd.V_below (Kd.V_elderB (vU HO0_1.out) gb179 (Nat.le_of_eq hg.symm)) hb); replace HO0_2 := am (Kd.V_below (Kd.V_elderB (vU HO0_2.out) gb179 (Nat.le_of_eq hg.symm)) hb); have BK179 := am (hbox); have GW179 := am ((by rw [hg]; exact (below_size (by repeat first | exact lU HB.out | refine below_set ?_ GE178.out | apply below_alloc | apply pw_below_drewN | apply below_drew1)) : w.heap.size ≤ gb179)); have GE179 := am ((by rw [hg]; exact (below_size (by repeat first | exact lU HB.out | refine below_set ?_ GE178.out | apply below_alloc | apply pw_below_drewN | apply below_drew1)) : w.heap.size ≤ gb179)); replace HB := am (below_step (by repeat first | exact lU HB.out | refine below_set ?_ GE178.out | apply below_alloc | apply pw_below_drewN | apply below_drew1) hb); have NB178_179 := am ((by rw [hg]; exact Nat.ne_of_lt (blk_lt (bU BK178.out)) : gb178 ≠ gb179)); have NB179_178 := am ((by rw [hg]; exact Nat.ne_of_gt (blk_lt (bU BK178.out)) : gb179 ≠ gb178)); replace BK178 := am (blk_below (bU BK178.out) hb); clear hb hbox hg; have hnb4 := NB178_179.out; have hnc4 := NB179_178.out; have hcz5_0 : w3.cell? ⟨gb178, 0, none⟩ = some (.int .i64 a0_0) := (blk_cell BK178.out 0).trans rfl; have hcz5_1 : w3.cell? ⟨gb178, 1, none⟩ = some (.slice A0_1 l0_1.length c0_1) := (blk_cell BK178.out 1).trans rfl; have hcz5_2 : w3.cell? ⟨gb178, 2, none⟩ = some (.slice A0_2 l0_2.length c0_2) := (blk_cell BK178.out 2).trans rfl; have hfz5_0 := blk_frozen BK178.out 0; have hfz5_1 := blk_frozen BK178.out 1; have hfz5_2 := blk_frozen BK178.out 2) | ((with_reducible refine gate_dst (N := 4) rfl ?_); refine Kd.N_lit k40 _ 40 ?hg (N' := 4) ?hd (xs := ([(⟨a0_0, l0_1, l0_2⟩ : S40)] : List (S40))) (inner := [.int .i64 a0_0, .slice A0_1 l0_1.length c0_1, .slice A0_2 l0_2.length c0_2]) (ok := (fun k_ => ((P0_1_ k_ ∨ P0_2_ k_) ∨ w.heap.size ≤ k_) ∧ k_ ≠ gb178 ∧ k_ ≠ gb179)) (okp := (fun k_ => ((P0_1_ k_ ∨ P0_2_ k_) ∨ w.heap.size ≤ k_) ∧ k_ ≠ gb178 ∧ k_ ≠ gb179)) ?hr ?hp (fun _ hk => hk) ((show ∀ k_, w3.heap.size ≤ k_ → (fun k_ => ((P0_1_ k_ ∨ P0_2_ k_) ∨ w.heap.size ≤ k_) ∧ k_ ≠ gb178 ∧ k_ ≠ gb179) k_ from fun k_ hk => ⟨(.inr (Nat.le_trans (below_size (by repeat first | exact lU HB.out | refine below_set ?_ (Aside0.out (by assumption)) | apply below_alloc | apply pw_below_drewN | apply below_drew1)) hk)), Kd.freshB (g := gb178) (o := .cells #[.int .i64 a0_0, .slice A0_1 l0_1.length c0_1, .slice A0_2 l0_2.length c0_2] 40 (0, 0)) (bU BK178.out) k_ hk, Kd.freshB (g := gb179) (o := .cells #[.int .i64 0, .slice none 0 0, .slice none 0 0] 40 (0, 0)) (bU BK179.out) k_ hk⟩) _ (Nat.le_refl _)) (Below.refl _ _) (Nat.le_refl _) (by simp) ?_; (case hd => rfl); (case hg => rfl); (case hr => first | (go_simp; done) | (go_simp; rfl)); (case hp => exact (Reps.c3 (show Kd.FK k40 _ _ (⟨a0_0, l0_1, l0_2⟩ : S40) [.int .i64 a0_0, .slice A0_1 l0_1.length c0_1, .slice A0_2 l0_2.length c0_2] from (k40_mkF _ _ (⟨a0_0, l0_1, l0_2⟩ : S40) (Kd.V_reads' (Kd.V_mono (ok' := (fun k_ => ((P0_1_ k_ ∨ P0_2_ k_) ∨ w.heap.size ≤ k_) ∧ k_ ≠ gb178 ∧ k_ ≠ gb179)) (HO0_1.out) (fun k_ hk => ⟨hk.1.1, ⟨hk.1.2, hk.2⟩⟩))).2.1 (Kd.V_F (Kd.V_mono (ok' := (fun k_ => ((P0_1_ k_ ∨ P0_2_ k_) ∨ w.heap.size ≤ k_) ∧ k_ ≠ gb178 ∧ k_ ≠ gb179)) (HO0_1.out) (fun k_ hk => ⟨hk.1.1, ⟨hk.1.2, hk.2⟩⟩))) (Kd.V_reads' (Kd.V_mono (ok' := (fun k_ => ((P0_1_ k_ ∨ P0_2_ k_) ∨ w.heap.size ≤ k_) ∧ k_ ≠ gb178 ∧ k_ ≠ gb179)) (HO0_2.out) (fun k_ hk => ⟨hk.1.1, ⟨hk.1.2, hk.2⟩⟩))).2.1 (Kd.V_F (Kd.V_mono (ok' := (fun k_ => ((P0_1_ k_ ∨ P0_2_ k_) ∨ w.heap.size ≤ k_) ∧ k_ ≠ gb178 ∧ k_ ≠ gb179)) (HO0_2.out) (fun k_ hk => ⟨hk.1.1, ⟨hk.1.2, hk.2⟩⟩))))) (Reps.none _ _))); intro v181 w6 ho7 hb hg_ hnew_; clear hg_ hnew_; (first | rw [← Ny180.out] at ho7 | (simp only [Int.reduceToNat] at ho7; rw [← Ny180.out] at ho7)); replace HO0_1 := am (Kd.V_elder' (vU HO0_1.out) (Kd.N_base ho7) hb); replace HO0_2 := am (Kd.V_elder' (vU HO0_2.out) (Kd.N_base ho7) hb); have HO182 := am (Kd.N_lower ho7 (below_size (by repeat first | exact lU HB.out | refine below_set ?_ (Aside0.out (by assumption)) | apply below_alloc | apply pw_below_drewN | apply below_drew1))); replace BK178 := am (blk_below (bU BK178.out) hb); replace BK179 := am (blk_below (bU BK179.out) hb); replace HB := am (below_step (by repeat first | exact lU HB.out | refine below_set ?_ (Aside0.out (by assumption)) | apply below_alloc | apply pw_below_drewN | apply below_drew1) hb); clear hb ho7; obtain ⟨Ao8, co8, eo8⟩ := Kd.N_slice HO182.out; subst eo8; have hcz9_0 : w6.cell? ⟨gb179, 0, none⟩ = some (.int .i64 0) := (blk_cell BK179.out 0).trans rfl; have hcz9_1 : w6.cell? ⟨gb179, 1, none⟩ = some (.slice none 0 0) := (blk_cell BK179.out 1).trans rfl; have hcz9_2 : w6.cell? ⟨gb179, 2, none⟩ = some (.slice none 0 0) := (blk_cell BK179.out 2).trans rfl; have hfz9_0 := blk_frozen BK179.out 0; have hfz9_1 := blk_frozen BK179.out 1; have hfz9_2 := blk_frozen BK179.out 2))
 refine bodyPost_ret (results_cell_row rfl _ _ gb179 40 #[.int .i64 6, .slice none 0 0, .slice Ao8 y180.length co8] (0, 0) _ rfl (by (with_reducible repeat (first | refine blk_drewN ?_ _ | refine blk_drew ?_ | refine blk_alloc ?_ _)); refine blk_put (cs := #[.int .i64 6, .slice none 0 0, .slice none 0 0]) ?_ 2 _ rfl; (with_reducible repeat (first | refine blk_drewN ?_ _ | refine blk_drew ?_ | refine blk_alloc ?_ _)); refine blk_put (cs := #[.int .i64 6, .slice none 0 0, .slice none 0 0]) ?_ 1 _ rfl; (with_reducible repeat (first | refine blk_drewN ?_ _ | refine blk_drew ?_ | refine blk_alloc ?_ _)); refine blk_put (cs := #[.int .i64 0, .slice none 0 0, .slice none 0 0]) ?_ 0 _ rfl; (with_reducible repeat (first | refine blk_drewN ?_ _ | refine blk_drew ?_ | refine blk_alloc ?_ _)); exact BK179.out) Try.underlying40 rfl (by kernel_rfl)) rfl ?_
 exact ⟨_, _, by first | rfl | (simp [errW_none, errW_some] <;> rfl) | (simp [*, errW_none, errW_some] <;> rfl), by first | exact Kd.R_nil _ _ _ _ _ | exact Kd.N_nil _ _ _ _ _ | exact Kd.V_nil _ _ _ _ _ | exact Kd.Q_nil _ _ _ _ _ | exact Kd.S_nil _ _ _ _ _, by (with_reducible repeat (first | apply Kd.N_alloc | apply Kd.N_drewN | apply Kd.N_drew)); exact Kd.N_mono (Kd.N_far (p := ⟨gb179, 2, none⟩) (Kd.N_far (p := ⟨gb179, 1, none⟩) (Kd.N_far (p := ⟨gb179, 0, none⟩) (Kd.N_mono HO182.out (fun k_ hk => (⟨hk, hk.2.2⟩ : _ ∧ k_ ≠ gb179))) (fun _ hk => hk.2) (.int .i64 6)) (fun _ hk => hk.2) (.slice none 0 0)) (fun _ hk => hk.2) (.slice Ao8 y180.length co8)) (fun _ hk => ⟨hk.1.1, (by simp [Value.ownBlock])⟩), by repeat (first | (with_reducible first | exact HB.out | apply below_alloc | apply pw_below_drewN | apply below_drew1 | refine below_set ?_ (Aside0.out (by assumption))) | exact HB.out)⟩

end Go.Proofs.Ytbbgnapepkenaaa.E
