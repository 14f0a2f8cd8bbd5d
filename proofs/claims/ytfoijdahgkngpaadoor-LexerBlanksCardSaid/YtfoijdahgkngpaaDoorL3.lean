-- Written for this claim by a program of this session (over the kit's print tool): functions as Lean functions, their contracts, rows. Lean checks it.
import Derived.Test.YtfoijdahgkngpaaDoorL0
import Derived.Test.YtfoijdahgkngpaaDoorL2
namespace Go.Proofs.YtfoijdahgkngpaaDoor.L
open Go.RowKit Go.Proofs.YtfoijdahgkngpaaDoorW.PrintWords Go.Proofs.YtfoijdahgkngpaaDoorW.PrintLast Go.Proofs.YtfoijdahgkngpaaDoorW.PrintMore
attribute [local go_sem] max2_int min2_int max_two min_two max_three min_three max_four min_four   -- for this text's walks alone
set_option linter.unusedVariables false
set_option linter.unusedSimpArgs false

/-! ### lexer_Split: function 10 -/
mutual
def lexer_Split.l0 : Nat → ByteArray → List (S33) → Int → Option ((List (S33)) × Int × Int)
  | 0, _, _, _ => none
  | k + 1, x0, x5, x6 => if x6 < (x0.size : Int) then (if 0 ≤ x6 then (if (bt x0 x6) = 32 then (lexer_Split.j1 k x0 x5 x6 1 (bt x0 x6) ((bt x0 x6) == 32) 0 x6 (⟨#[]⟩ : ByteArray)) else (if (bt x0 x6) = 9 then (lexer_Split.j1 k x0 x5 x6 1 (bt x0 x6) ((bt x0 x6) == 9) 0 x6 (⟨#[]⟩ : ByteArray)) else (lexer_Split.j1 k x0 x5 x6 1 (bt x0 x6) ((bt x0 x6) == 10) 0 x6 (⟨#[]⟩ : ByteArray)))) else (none)) else (some (x5, 0, 0))
def lexer_Split.j1 : Nat → ByteArray → List (S33) → Int → Int → Int → Bool → Int → Int → ByteArray → Option ((List (S33)) × Int × Int)
  | 0, _, _, _, _, _, _, _, _, _ => none
  | k + 1, x0, x5, x6, x8, x9, x29, x113000, x113001, x113002 => if x29 = true then (lexer_Split.l0 k x0 x5 (wrap64 (x6 + 1))) else (if x9 = 34 then (if 0 ≤ (wrap64 (x6 + 1)) then (if (wrap64 (x6 + 1)) ≤ (x0.size : Int) then ((lexer_literal.f k (x0.extract ((wrap64 (x6 + 1)) : Int).toNat x0.size)).bind fun bt113 => (if bt113.2.2 = true then (if 6 = 0 then (some (([] : List (S33)), 171, x6)) else (if x5.length < 4398046511104 then (lexer_Split.l0 k x0 (x5 ++ [(⟨6, x113001, bt113.1⟩ : S33)]) (wrap64 (x6 + (wrap64 (bt113.2.1 + 1))))) else (none))) else (some (([] : List (S33)), 171, wrap64 ((wrap64 (x6 + 1)) + bt113.2.1))))) else (none)) else (none)) else ((lexer_letter.f x9).bind fun t119 => (if t119 = true then (lexer_Split.l1 k x0 x5 x6 x8 x113000 x113001 x113002) else ((strings_IndexByte.f (⟨#[40, 41, 91, 93, 94]⟩ : ByteArray) x9).bind fun t129 => (if (wrap64 (t129 + 1)) = 0 then (some (([] : List (S33)), 171, x6)) else (if x5.length < 4398046511104 then (lexer_Split.l0 k x0 (x5 ++ [(⟨wrap64 (t129 + 1), x113001, x113002⟩ : S33)]) (wrap64 (x6 + x8))) else (none)))))))
def lexer_Split.l1 : Nat → ByteArray → List (S33) → Int → Int → Int → Int → ByteArray → Option ((List (S33)) × Int × Int)
  | 0, _, _, _, _, _, _, _ => none
  | k + 1, x0, x5, x6, x8, x113000, x113001, x113002 => if (wrap64 (x6 + x8)) < (x0.size : Int) then (if 0 ≤ (wrap64 (x6 + x8)) then ((lexer_letter.f (bt x0 (wrap64 (x6 + x8)))).bind fun t120 => (if t120 = true then (lexer_Split.l1 k x0 x5 x6 (wrap64 (x8 + 1)) x113000 x113001 x113002) else (if 0 ≤ x6 then (if x6 ≤ (wrap64 (x6 + x8)) then (if (wrap64 (x6 + x8)) ≤ (x0.size : Int) then ((lexer_word.f (x0.extract (x6 : Int).toNat ((wrap64 (x6 + x8)) : Int).toNat)).bind fun t121 => (if t121 = 0 then (some (([] : List (S33)), 171, x6)) else (if x5.length < 4398046511104 then (lexer_Split.l0 k x0 (x5 ++ [(⟨t121, x113001, x113002⟩ : S33)]) (wrap64 (x6 + x8))) else (none)))) else (none)) else (none)) else (none)))) else (none)) else (if 0 ≤ x6 then (if x6 ≤ (wrap64 (x6 + x8)) then (if (wrap64 (x6 + x8)) ≤ (x0.size : Int) then ((lexer_word.f (x0.extract (x6 : Int).toNat ((wrap64 (x6 + x8)) : Int).toNat)).bind fun t125 => (if t125 = 0 then (some (([] : List (S33)), 171, x6)) else (if x5.length < 4398046511104 then (lexer_Split.l0 k x0 (x5 ++ [(⟨t125, x113001, x113002⟩ : S33)]) (wrap64 (x6 + x8))) else (none)))) else (none)) else (none)) else (none))
end
def lexer_Split.f (k : Nat) (a0 : ByteArray) : Option ((List (S33)) × Int × Int) := if (a0.size : Int) > 1024 then (some (([] : List (S33)), 231, 0)) else (lexer_Split.l0 k a0 ([] : List (S33)) 0)
theorem lexer_Split.mono_l : ∀ k, (∀ y0 y1 y2, LeO (lexer_Split.l0 k y0 y1 y2) (lexer_Split.l0 (k + 1) y0 y1 y2)) ∧ (∀ y0 y1 y2 y3 y4 y5 y6 y7 y8, LeO (lexer_Split.j1 k y0 y1 y2 y3 y4 y5 y6 y7 y8) (lexer_Split.j1 (k + 1) y0 y1 y2 y3 y4 y5 y6 y7 y8)) ∧ (∀ y0 y1 y2 y3 y4 y5 y6, LeO (lexer_Split.l1 k y0 y1 y2 y3 y4 y5 y6) (lexer_Split.l1 (k + 1) y0 y1 y2 y3 y4 y5 y6))
  | 0 => ⟨fun _ _ _ r h => by simp [lexer_Split.l0] at h, fun _ _ _ _ _ _ _ _ _ r h => by simp [lexer_Split.j1] at h, fun _ _ _ _ _ _ _ r h => by simp [lexer_Split.l1] at h⟩
  | k + 1 => by
    obtain ⟨ih0, ih1, ih2⟩ := lexer_Split.mono_l k
    refine ⟨?_, ?_, ?_⟩
    · intro y0 y1 y2
      unfold lexer_Split.l0
      repeat' first
      | (with_reducible exact ih0 _ _ _)
      | (with_reducible exact ih1 _ _ _ _ _ _ _ _ _)
      | (with_reducible exact ih2 _ _ _ _ _ _ _)
      | (with_reducible exact lexer_literal.mono _ _)
      | (with_reducible exact LeO.refl _)
      | (with_reducible exact LeO.none _)
      | (with_reducible refine LeO.ite ?_ ?_)
      | (with_reducible refine LeO.bind ?_ (fun _ => ?_))
      | exact ih0 _ _ _
      | exact ih1 _ _ _ _ _ _ _ _ _
      | exact ih2 _ _ _ _ _ _ _
      | exact lexer_literal.mono _ _
      | exact LeO.none _
      | refine LeO.ite ?_ ?_
      | refine LeO.bind ?_ (fun _ => ?_)
    · intro y0 y1 y2 y3 y4 y5 y6 y7 y8
      unfold lexer_Split.j1
      repeat' first
      | (with_reducible exact ih0 _ _ _)
      | (with_reducible exact ih1 _ _ _ _ _ _ _ _ _)
      | (with_reducible exact ih2 _ _ _ _ _ _ _)
      | (with_reducible exact lexer_literal.mono _ _)
      | (with_reducible exact LeO.refl _)
      | (with_reducible exact LeO.none _)
      | (with_reducible refine LeO.ite ?_ ?_)
      | (with_reducible refine LeO.bind ?_ (fun _ => ?_))
      | exact ih0 _ _ _
      | exact ih1 _ _ _ _ _ _ _ _ _
      | exact ih2 _ _ _ _ _ _ _
      | exact lexer_literal.mono _ _
      | exact LeO.none _
      | refine LeO.ite ?_ ?_
      | refine LeO.bind ?_ (fun _ => ?_)
    · intro y0 y1 y2 y3 y4 y5 y6
      unfold lexer_Split.l1
      repeat' first
      | (with_reducible exact ih0 _ _ _)
      | (with_reducible exact ih1 _ _ _ _ _ _ _ _ _)
      | (with_reducible exact ih2 _ _ _ _ _ _ _)
      | (with_reducible exact lexer_literal.mono _ _)
      | (with_reducible exact LeO.refl _)
      | (with_reducible exact LeO.none _)
      | (with_reducible refine LeO.ite ?_ ?_)
      | (with_reducible refine LeO.bind ?_ (fun _ => ?_))
      | exact ih0 _ _ _
      | exact ih1 _ _ _ _ _ _ _ _ _
      | exact ih2 _ _ _ _ _ _ _
      | exact lexer_literal.mono _ _
      | exact LeO.none _
      | refine LeO.ite ?_ ?_
      | refine LeO.bind ?_ (fun _ => ?_)
theorem lexer_Split.mono : ∀ a0 k, LeO (lexer_Split.f k a0) (lexer_Split.f (k + 1) a0) := by
  intro a0 k
  obtain ⟨ih0, ih1, ih2⟩ := lexer_Split.mono_l k
  unfold lexer_Split.f
  repeat' first
      | (with_reducible exact ih0 _ _ _)
      | (with_reducible exact ih1 _ _ _ _ _ _ _ _ _)
      | (with_reducible exact ih2 _ _ _ _ _ _ _)
      | (with_reducible exact lexer_literal.mono _ _)
      | (with_reducible exact LeO.refl _)
      | (with_reducible exact LeO.none _)
      | (with_reducible refine LeO.ite ?_ ?_)
      | (with_reducible refine LeO.bind ?_ (fun _ => ?_))
      | exact ih0 _ _ _
      | exact ih1 _ _ _ _ _ _ _ _ _
      | exact ih2 _ _ _ _ _ _ _
      | exact lexer_literal.mono _ _
      | exact LeO.none _
      | refine LeO.ite ?_ ?_
      | refine LeO.bind ?_ (fun _ => ?_)
set_option maxHeartbeats 8000000 in
set_option maxRecDepth 100000 in
theorem lexer_Split.calls (k : Nat) (a0 : ByteArray) (r1 : List (S33)) (r2 : Int) (r3 : Int) (w : World) (h : lexer_Split.f k a0 = some (r1, r2, r3)) :
    Calls Tryd.prog 10 #[.string a0] w fun e w' => ∃ v0_ : Value, e = .returned (.tuple #[v0_, .int .i64 r2, .int .i64 r3]) ∧ Kd.R k33 33 w' w.heap.size (fun _ => True) v0_ r1 ∧ Below w.heap.size w w' := by
  have hu33 := Tryd.underlying33
  have HB := Aside0.mk (Below.refl w.heap.size w)
  have H : (if (a0.size : Int) > 1024 then (some (([] : List (S33)), 231, 0)) else (lexer_Split.l0 k a0 ([] : List (S33)) 0)) = some (r1, r2, r3) := h
  clear h
  by_cases c2 : (a0.size : Int) > 1024
  · rw [if_pos c2] at H
    have c2b0 : decide (1024 < (a0.size : Int)) = true := decide_eq_true c2
    have c2b1 : decide (1024 < a0.size) = true := decide_eq_true (by omega)
    clear c2
    as_aux_lemma =>
      simp only [Option.some.injEq, Prod.mk.injEq] at H
      obtain ⟨rfl, rfl, rfl⟩ := H
      go_enter Tryd.func10, Tryd.ntmps10
      (try go_wp2); (try go_step3); (try go_wp2); (try go_step3)
      go_wp2
      (try rw [Exit.noGoto_ret])
      go_ret3
      exact ⟨_, by first | rfl | (simp [errW_none, errW_some] <;> rfl) | (simp [*, errW_none, errW_some] <;> rfl), by first | exact Kd.R_nil _ _ _ _ _ | exact Kd.N_nil _ _ _ _ _ | exact Kd.V_nil _ _ _ _ _ | exact Kd.Q_nil _ _ _ _ _ | exact Kd.S_nil _ _ _ _ _, by repeat (first | (with_reducible first | exact HB.out | apply below_alloc | apply pw_below_drewN | apply below_drew1) | exact HB.out)⟩
  · rw [if_neg c2] at H
    have c2b0 : decide (1024 < (a0.size : Int)) = false := decide_eq_false c2
    have c2b1 : decide (1024 < a0.size) = false := decide_eq_false (by omega)
    clear c2
    have H' := Aside0.mk H
    clear H
    go_enter Tryd.func10, Tryd.ntmps10
    (try go_wp2); (try go_step3); (try go_wp2); (try go_step3)
    go_wp2
    go_loopg [5, 6] k (fun kq v5 v6 w' => ∃ (x5_1 : List (S33)) (x6_1 : Int), v6 = .int .i64 x6_1 ∧ Aside0 (lexer_Split.l0 kq a0 x5_1 x6_1 = some (r1, r2, r3)) ∧ Aside0 (kq ≤ k) ∧ Aside0 (Kd.R k33 33 w' w.heap.size (fun _ => True) v5 x5_1) ∧ Aside0 (Below w.heap.size w w'))
    case atStart => exact ⟨(([] : List (S33))), (0), (by first | rfl | (simp; done) | (simp [*]; done)), H', ⟨Nat.le_refl _⟩, ⟨by first | exact Kd.R_nil _ _ _ _ _ | exact Kd.N_nil _ _ _ _ _ | exact Kd.V_nil _ _ _ _ _ | exact Kd.Q_nil _ _ _ _ _ | exact Kd.S_nil _ _ _ _ _⟩, ⟨by repeat (first | (with_reducible first | exact HB.out | apply below_alloc | apply pw_below_drewN | apply below_drew1) | exact HB.out)⟩⟩
    case round =>
      clear H'
      try clear c1
      try clear c2
      try clear c2b0
      try clear c2b1
      try clear p2
      obtain ⟨x5_1, x6_1, rfl, HA, HK1, HO_5, HB⟩ := hrel
      cases gk with
      | zero => exact absurd HA.out (by simp [lexer_Split.l0])
      | succ k1 =>
        have H := HA.out
        clear HA
        simp only [lexer_Split.l0] at H
        by_cases c3 : x6_1 < (a0.size : Int)
        · rw [if_pos c3] at H
          have c3b0 : decide (x6_1 < (a0.size : Int)) = true := decide_eq_true c3
          clear c3
          by_cases c4 : 0 ≤ x6_1
          · rw [if_pos c4] at H
            have c4b0 : decide (0 ≤ x6_1) = true := decide_eq_true c4
            clear c4
            have HC6 := Aside0.mk H
            clear H
            go_upto_if 29 with (first | ((with_reducible refine gate_dst (N := 7) rfl ?_); refine box_event ?hg (N := 7) ?hd (cs := #[.int .i64 0, .int .i64 0, .string (⟨#[]⟩ : ByteArray)]) (t := 33) ?hr ?_; (case hd => rfl); (case hg => rfl); (case hr => first | (go_simp; done) | (go_simp; rfl)); intro gb112 hg w7 hbox hb; have n0_ := Aside0.mk (Kd.R_below (Kd.R_elderB (by (with_reducible repeat (first | apply Kd.R_alloc | apply Kd.R_drewN | apply Kd.R_drew)); exact HO_5.out) gb112 (Nat.le_of_eq hg.symm)) hb); have n1_ := Aside0.mk (below_step (by repeat (first | (with_reducible first | exact HB.out | apply below_alloc | apply pw_below_drewN | apply below_drew1) | exact HB.out)) hb); have n2_ := Aside0.mk (hbox); have n3_ := Aside0.mk ((by rw [hg]; exact (below_size (by repeat (first | (with_reducible first | exact HB.out | apply below_alloc | apply pw_below_drewN | apply below_drew1) | exact HB.out))) : w.heap.size ≤ gb112)); have n4_ := Aside0.mk ((by rw [hg]; exact (below_size (by repeat (first | (with_reducible first | exact HB.out | apply below_alloc | apply pw_below_drewN | apply below_drew1) | exact HB.out))) : w.heap.size ≤ gb112)); clear HO_5; clear HB; have HO_5 := n0_; have HB := n1_; have BK112 := n2_; have GW112 := n3_; have GE112 := n4_; clear n0_ n1_ n2_ n3_ n4_; clear hb hbox hg; have hcz8_0 : w7.cell? ⟨gb112, 0, none⟩ = some (.int .i64 0) := (blk_cell BK112.out 0).trans rfl; have hcz8_1 : w7.cell? ⟨gb112, 1, none⟩ = some (.int .i64 0) := (blk_cell BK112.out 1).trans rfl; have hcz8_2 : w7.cell? ⟨gb112, 2, none⟩ = some (.string (⟨#[]⟩ : ByteArray)) := (blk_cell BK112.out 2).trans rfl; have hfz8_0 := blk_frozen BK112.out 0; have hfz8_1 := blk_frozen BK112.out 1; have hfz8_2 := blk_frozen BK112.out 2; have p5 : 0 ≤ (x6_1 : Int) := of_decide_eq_true (by first | (with_reducible assumption) | assumption); have q5 : x6_1 < (a0.size : Int) := of_decide_eq_true (by first | (with_reducible assumption) | assumption); have hx5 := bt_at a0 x6_1; replace p5 := eq_true p5; replace q5 := eq_true q5))
            (try simp only [Act.put, List.setIfInBounds_toArray, List.set_cons_zero, List.set_cons_succ])
            go_cut [29] (fun v29 wc => ∃ (kq : Nat) (x29_5 : Bool), v29 = .bool x29_5 ∧ Aside0 (lexer_Split.j1 kq a0 x5_1 x6_1 1 (bt a0 x6_1) x29_5 0 x6_1 (⟨#[]⟩ : ByteArray) = some (r1, r2, r3)) ∧ Aside0 (kq ≤ k1) ∧ Aside0 (Kd.R k33 33 wc w.heap.size (fun k_ => k_ ≠ gb112) u5 x5_1) ∧ Aside0 (wc.heap[gb112]? = some (.cells #[.int .i64 0, .int .i64 x6_1, .string (⟨#[]⟩ : ByteArray)] 33 (0, 0))) ∧ Aside0 (Below w.heap.size w wc))
            case first =>
              have H := HC6.out
              clear HC6
              by_cases c9 : (bt a0 x6_1) = 32
              · rw [if_pos c9] at H
                have c9b0 : ((bt a0 x6_1) == 32) = true := beq_iff_eq.mpr c9
                have c9b1 : ((bt a0 x6_1) != 32) = false := bne_eq_false_iff_eq.mpr c9
                clear c9
                (first | rw [c9b0] | (simp only [i64_w, i32_w]; rw [c9b0]) | skip)
                as_aux_lemma =>
                  have H' := Aside0.mk H
                  clear H
                  go_wp2
                  go_meet
                  case rel => exact ⟨_, (((bt a0 x6_1) == 32)), (by first | rfl | (simp; done) | (simp [*]; done)), H', ⟨by have := HK1.out; first | omega | exact Nat.le_refl _⟩, ⟨by (with_reducible repeat (first | apply Kd.R_alloc | apply Kd.R_drewN | apply Kd.R_drew)); exact Kd.R_mono (Kd.R_far (p := ⟨gb112, 2, none⟩) (Kd.R_far (p := ⟨gb112, 1, none⟩) (Kd.R_far (p := ⟨gb112, 0, none⟩) (Kd.R_mono HO_5.out (fun k_ hk => (⟨hk, hk.2⟩ : _ ∧ k_ ≠ gb112))) (fun _ hk => hk.2) (.int .i64 0)) (fun _ hk => hk.2) (.int .i64 x6_1)) (fun _ hk => hk.2) (.string (⟨#[]⟩ : ByteArray))) (fun _ hk => hk.1.2)⟩, ⟨by (with_reducible repeat (first | refine blk_drewN ?_ _ | refine blk_drew ?_ | refine blk_alloc ?_ _)); refine blk_put (cs := #[.int .i64 0, .int .i64 x6_1, .string (⟨#[]⟩ : ByteArray)]) ?_ 2 _ rfl; (with_reducible repeat (first | refine blk_drewN ?_ _ | refine blk_drew ?_ | refine blk_alloc ?_ _)); refine blk_put (cs := #[.int .i64 0, .int .i64 0, .string (⟨#[]⟩ : ByteArray)]) ?_ 1 _ rfl; (with_reducible repeat (first | refine blk_drewN ?_ _ | refine blk_drew ?_ | refine blk_alloc ?_ _)); refine blk_put (cs := #[.int .i64 0, .int .i64 0, .string (⟨#[]⟩ : ByteArray)]) ?_ 0 _ rfl; (with_reducible repeat (first | refine blk_drewN ?_ _ | refine blk_drew ?_ | refine blk_alloc ?_ _)); exact BK112.out⟩, ⟨by repeat (first | (with_reducible first | exact HB.out | apply below_alloc | apply pw_below_drewN | apply below_drew1 | refine below_set ?_ GE112.out) | exact HB.out)⟩⟩
              · rw [if_neg c9] at H
                have c9b0 : ((bt a0 x6_1) == 32) = false := beq_eq_false_iff_ne.mpr c9
                have c9b1 : ((bt a0 x6_1) != 32) = true := bne_iff_ne.mpr c9
                (first | rw [c9b0] | (simp only [i64_w, i32_w]; rw [c9b0]) | skip)
                by_cases c10 : (bt a0 x6_1) = 9
                · rw [if_pos c10] at H
                  have c10b0 : ((bt a0 x6_1) == 9) = true := beq_iff_eq.mpr c10
                  have c10b1 : ((bt a0 x6_1) != 9) = false := bne_eq_false_iff_eq.mpr c10
                  clear c10
                  as_aux_lemma =>
                    have H' := Aside0.mk H
                    clear H
                    go_wp2
                    go_meet
                    case rel => exact ⟨_, (((bt a0 x6_1) == 9)), (by first | rfl | (simp; done) | (simp [*]; done)), H', ⟨by have := HK1.out; first | omega | exact Nat.le_refl _⟩, ⟨by (with_reducible repeat (first | apply Kd.R_alloc | apply Kd.R_drewN | apply Kd.R_drew)); exact Kd.R_mono (Kd.R_far (p := ⟨gb112, 2, none⟩) (Kd.R_far (p := ⟨gb112, 1, none⟩) (Kd.R_far (p := ⟨gb112, 0, none⟩) (Kd.R_mono HO_5.out (fun k_ hk => (⟨hk, hk.2⟩ : _ ∧ k_ ≠ gb112))) (fun _ hk => hk.2) (.int .i64 0)) (fun _ hk => hk.2) (.int .i64 x6_1)) (fun _ hk => hk.2) (.string (⟨#[]⟩ : ByteArray))) (fun _ hk => hk.1.2)⟩, ⟨by (with_reducible repeat (first | refine blk_drewN ?_ _ | refine blk_drew ?_ | refine blk_alloc ?_ _)); refine blk_put (cs := #[.int .i64 0, .int .i64 x6_1, .string (⟨#[]⟩ : ByteArray)]) ?_ 2 _ rfl; (with_reducible repeat (first | refine blk_drewN ?_ _ | refine blk_drew ?_ | refine blk_alloc ?_ _)); refine blk_put (cs := #[.int .i64 0, .int .i64 0, .string (⟨#[]⟩ : ByteArray)]) ?_ 1 _ rfl; (with_reducible repeat (first | refine blk_drewN ?_ _ | refine blk_drew ?_ | refine blk_alloc ?_ _)); refine blk_put (cs := #[.int .i64 0, .int .i64 0, .string (⟨#[]⟩ : ByteArray)]) ?_ 0 _ rfl; (with_reducible repeat (first | refine blk_drewN ?_ _ | refine blk_drew ?_ | refine blk_alloc ?_ _)); exact BK112.out⟩, ⟨by repeat (first | (with_reducible first | exact HB.out | apply below_alloc | apply pw_below_drewN | apply below_drew1 | refine below_set ?_ GE112.out) | exact HB.out)⟩⟩
                · rw [if_neg c10] at H
                  have c10b0 : ((bt a0 x6_1) == 9) = false := beq_eq_false_iff_ne.mpr c10
                  have c10b1 : ((bt a0 x6_1) != 9) = true := bne_iff_ne.mpr c10
                  as_aux_lemma =>
                    have H' := Aside0.mk H
                    clear H
                    go_wp2
                    go_meet
                    case rel => exact ⟨_, (((bt a0 x6_1) == 10)), (by first | rfl | (simp; done) | (simp [*]; done)), H', ⟨by have := HK1.out; first | omega | exact Nat.le_refl _⟩, ⟨by (with_reducible repeat (first | apply Kd.R_alloc | apply Kd.R_drewN | apply Kd.R_drew)); exact Kd.R_mono (Kd.R_far (p := ⟨gb112, 2, none⟩) (Kd.R_far (p := ⟨gb112, 1, none⟩) (Kd.R_far (p := ⟨gb112, 0, none⟩) (Kd.R_mono HO_5.out (fun k_ hk => (⟨hk, hk.2⟩ : _ ∧ k_ ≠ gb112))) (fun _ hk => hk.2) (.int .i64 0)) (fun _ hk => hk.2) (.int .i64 x6_1)) (fun _ hk => hk.2) (.string (⟨#[]⟩ : ByteArray))) (fun _ hk => hk.1.2)⟩, ⟨by (with_reducible repeat (first | refine blk_drewN ?_ _ | refine blk_drew ?_ | refine blk_alloc ?_ _)); refine blk_put (cs := #[.int .i64 0, .int .i64 x6_1, .string (⟨#[]⟩ : ByteArray)]) ?_ 2 _ rfl; (with_reducible repeat (first | refine blk_drewN ?_ _ | refine blk_drew ?_ | refine blk_alloc ?_ _)); refine blk_put (cs := #[.int .i64 0, .int .i64 0, .string (⟨#[]⟩ : ByteArray)]) ?_ 1 _ rfl; (with_reducible repeat (first | refine blk_drewN ?_ _ | refine blk_drew ?_ | refine blk_alloc ?_ _)); refine blk_put (cs := #[.int .i64 0, .int .i64 0, .string (⟨#[]⟩ : ByteArray)]) ?_ 0 _ rfl; (with_reducible repeat (first | refine blk_drewN ?_ _ | refine blk_drew ?_ | refine blk_alloc ?_ _)); exact BK112.out⟩, ⟨by repeat (first | (with_reducible first | exact HB.out | apply below_alloc | apply pw_below_drewN | apply below_drew1 | refine below_set ?_ GE112.out) | exact HB.out)⟩⟩
            case rest =>
              clear HC6
              try clear c1
              try clear c2
              try clear c2b0
              try clear c2b1
              try clear p2
              try clear c3
              try clear c3b0
              try clear c4
              try clear c4b0
              try clear p5
              try clear q5
              try clear hx5
              try clear c9
              try clear c9b0
              try clear c9b1
              try clear c10
              try clear c10b0
              try clear c10b1
              try clear hcz8_0
              try clear hcz8_1
              try clear hcz8_2
              try clear hfz8_0
              try clear hfz8_1
              try clear hfz8_2
              try clear p2
              try clear p5
              try clear q5
              obtain ⟨kq, x29_5, rfl, HA, HJ5, HO_5, BK112, HB⟩ := hcut
              cases kq with
              | zero => exact absurd HA.out (by simp [lexer_Split.j1])
              | succ kj5 =>
                have H := HA.out
                clear HA
                simp only [lexer_Split.j1] at H
                by_cases c11 : x29_5 = true
                · subst c11
                  have H1 : (lexer_Split.l0 kj5 a0 x5_1 (wrap64 (x6_1 + 1))) = some (r1, r2, r3) := by rw [if_pos rfl] at H; exact H
                  clear H
                  have H := H1
                  clear H1
                  as_aux_lemma =>
                    have H' := Aside0.mk H
                    clear H
                    go_wp2
                    go_roundg kj5
                    case measure => have := HK1.out; have := HJ5.out; omega
                    case rel => exact ⟨(x5_1), (wrap64 (x6_1 + 1)), (by first | rfl | (simp; done) | (simp [*]; done)), H', ⟨by have := HK1.out; have := HJ5.out; omega⟩, ⟨by (with_reducible repeat (first | apply Kd.R_alloc | apply Kd.R_drewN | apply Kd.R_drew)); exact Kd.R_mono HO_5.out (fun _ hk => trivial)⟩, ⟨by repeat (first | (with_reducible first | exact HB.out | apply below_alloc | apply pw_below_drewN | apply below_drew1 | refine below_set ?_ GE112.out) | exact HB.out)⟩⟩
                · replace c11 := Bool.eq_false_iff.mpr c11
                  subst c11
                  have H1 : (if (bt a0 x6_1) = 34 then (if 0 ≤ (wrap64 (x6_1 + 1)) then (if (wrap64 (x6_1 + 1)) ≤ (a0.size : Int) then ((lexer_literal.f kj5 (a0.extract ((wrap64 (x6_1 + 1)) : Int).toNat a0.size)).bind fun bt113 => (if bt113.2.2 = true then (if 6 = 0 then (some (([] : List (S33)), 171, x6_1)) else (if x5_1.length < 4398046511104 then (lexer_Split.l0 kj5 a0 (x5_1 ++ [(⟨6, x6_1, bt113.1⟩ : S33)]) (wrap64 (x6_1 + (wrap64 (bt113.2.1 + 1))))) else (none))) else (some (([] : List (S33)), 171, wrap64 ((wrap64 (x6_1 + 1)) + bt113.2.1))))) else (none)) else (none)) else ((lexer_letter.f (bt a0 x6_1)).bind fun t119 => (if t119 = true then (lexer_Split.l1 kj5 a0 x5_1 x6_1 1 0 x6_1 (⟨#[]⟩ : ByteArray)) else ((strings_IndexByte.f (⟨#[40, 41, 91, 93, 94]⟩ : ByteArray) (bt a0 x6_1)).bind fun t129 => (if (wrap64 (t129 + 1)) = 0 then (some (([] : List (S33)), 171, x6_1)) else (if x5_1.length < 4398046511104 then (lexer_Split.l0 kj5 a0 (x5_1 ++ [(⟨wrap64 (t129 + 1), x6_1, (⟨#[]⟩ : ByteArray)⟩ : S33)]) (wrap64 (x6_1 + 1))) else (none))))))) = some (r1, r2, r3) := by rw [if_neg (show ¬ (false = true) by decide)] at H; exact H
                  clear H
                  have H := H1
                  clear H1
                  by_cases c12 : (bt a0 x6_1) = 34
                  · rw [if_pos c12] at H
                    have c12b0 : ((bt a0 x6_1) == 34) = true := beq_iff_eq.mpr c12
                    have c12b1 : ((bt a0 x6_1) != 34) = false := bne_eq_false_iff_eq.mpr c12
                    clear c12
                    obtain ⟨ji13, hji13⟩ : ∃ j_ : Int, (wrap64 (x6_1 + 1)) = j_ := ⟨_, rfl⟩
                    replace H : (if 0 ≤ (ji13) then (if (ji13) ≤ (a0.size : Int) then ((lexer_literal.f kj5 (a0.extract ((ji13) : Int).toNat a0.size)).bind fun bt113 => (if bt113.2.2 = true then (if 6 = 0 then (some (([] : List (S33)), 171, x6_1)) else (if x5_1.length < 4398046511104 then (lexer_Split.l0 kj5 a0 (x5_1 ++ [(⟨6, x6_1, bt113.1⟩ : S33)]) (wrap64 (x6_1 + (wrap64 (bt113.2.1 + 1))))) else (none))) else (some (([] : List (S33)), 171, wrap64 ((ji13) + bt113.2.1))))) else (none)) else (none)) = some (r1, r2, r3) := by first | (rw [hji13] at H; exact H) | (simp only [hji13] at H ⊢; exact H)
                    have hji13w : (IntKind.i64.wrap (x6_1 + 1)) = ji13 := (i64_w _).trans hji13
                    by_cases c14 : 0 ≤ (ji13)
                    · rw [if_pos c14] at H
                      have c14b0 := eq_true c14
                      have c14b1 : decide (0 ≤ (ji13)) = true := decide_eq_true c14
                      clear c14
                      by_cases c15 : (ji13) ≤ (a0.size : Int)
                      · rw [if_pos c15] at H
                        have c15b0 := eq_true c15
                        have c15b1 : decide ((ji13) ≤ (a0.size : Int)) = true := decide_eq_true c15
                        clear c15
                        replace H := Option.bind_eq_some_iff.mp H
                        obtain ⟨⟨t113, t114, t115⟩, A160, H⟩ := H
                        replace H : (if t115 = true then (if 6 = 0 then (some (([] : List (S33)), 171, x6_1)) else (if x5_1.length < 4398046511104 then (lexer_Split.l0 kj5 a0 (x5_1 ++ [(⟨6, x6_1, t113⟩ : S33)]) (wrap64 (x6_1 + (wrap64 (t114 + 1))))) else (none))) else (some (([] : List (S33)), 171, wrap64 ((ji13) + t114)))) = some (r1, r2, r3) := H
                        have A16 := Aside0.mk A160
                        clear A160
                        by_cases c17 : t115 = true
                        · subst c17
                          have H1 : (if 6 = 0 then (some (([] : List (S33)), 171, x6_1)) else (if x5_1.length < 4398046511104 then (lexer_Split.l0 kj5 a0 (x5_1 ++ [(⟨6, x6_1, t113⟩ : S33)]) (wrap64 (x6_1 + (wrap64 (t114 + 1))))) else (none))) = some (r1, r2, r3) := by rw [if_pos rfl] at H; exact H
                          clear H
                          have H := H1
                          clear H1
                          by_cases c18 : 6 = 0
                          · exact absurd c18 (by decide)
                          · rw [if_neg c18] at H
                            have c18b0 : (6 == 0) = false := beq_eq_false_iff_ne.mpr c18
                            have c18b1 : (6 != 0) = true := bne_iff_ne.mpr c18
                            by_cases c21 : x5_1.length < 4398046511104
                            · rw [if_pos c21] at H
                              have LMc21 := Aside0.mk c21
                              clear c21
                              obtain ⟨y116, hy116⟩ : ∃ y_ : List (S33), y_ = (x5_1 ++ [(⟨6, x6_1, t113⟩ : S33)]) := ⟨_, rfl⟩
                              replace H : (lexer_Split.l0 kj5 a0 y116 (wrap64 (x6_1 + (wrap64 (t114 + 1))))) = some (r1, r2, r3) := by first | (rw [hy116]; with_reducible exact H) | (have H2_ := (Option.bind_some _ _).symm.trans H; rw [hy116]; with_reducible exact H2_) | (have H2_ := (Option.bind_some _ _).symm.trans H; with_reducible exact H2_) | with_reducible exact H | (rw [hy116]; exact H) | exact H
                              have Ny116 := Aside0.mk hy116
                              clear hy116
                              as_aux_lemma =>
                                have H' := Aside0.mk H
                                clear H
                                go_wp2_with (first | ((with_reducible refine gate_callee (f := 15) rfl ?_); refine goesL_ (some 46) rfl rfl Tryd.func15 (by kernel_rfl) rfl #[.string (a0.extract ((ji13) : Int).toNat a0.size)] rfl (by (try simp only [List.map_toArray, List.map_cons, List.map_nil]); first | done | (simp only [hji13]; rfl) | rfl | (simp only [List.length_drop, List.length_take]; rfl)) ?_; (with_reducible refine (lexer_literal.calls kj5 (a0.extract ((ji13) : Int).toNat a0.size) t113 t114 true _ A16.out).mono ?_); rintro e w22 ⟨rfl, hb⟩; refine ⟨_, rfl, ?_⟩; have n0_ := Aside0.mk (Kd.R_below (by (with_reducible repeat (first | apply Kd.R_alloc | apply Kd.R_drewN | apply Kd.R_drew)); exact HO_5.out) hb); have n1_ := Aside0.mk (blk_below (g := gb112) (o := .cells #[.int .i64 0, .int .i64 x6_1, .string (⟨#[]⟩ : ByteArray)] 33 (0, 0)) (by (with_reducible repeat (first | refine blk_drewN ?_ _ | refine blk_drew ?_ | refine blk_alloc ?_ _)); exact BK112.out) hb); have n2_ := Aside0.mk (below_step (by repeat (first | (with_reducible first | exact HB.out | apply below_alloc | apply pw_below_drewN | apply below_drew1 | refine below_set ?_ GE112.out) | exact HB.out)) hb); clear HO_5; clear BK112; clear HB; have HO_5 := n0_; have BK112 := n1_; have HB := n2_; clear n0_ n1_ n2_; (try clear hb); (try clear hb2); (try clear hk); (try clear hi); have hcz23_0 : w22.cell? ⟨gb112, 0, none⟩ = some (.int .i64 0) := (blk_cell BK112.out 0).trans rfl; have hcz23_1 : w22.cell? ⟨gb112, 1, none⟩ = some (.int .i64 x6_1) := (blk_cell BK112.out 1).trans rfl; have hcz23_2 : w22.cell? ⟨gb112, 2, none⟩ = some (.string (⟨#[]⟩ : ByteArray)) := (blk_cell BK112.out 2).trans rfl; have hfz23_0 := blk_frozen BK112.out 0; have hfz23_1 := blk_frozen BK112.out 1; have hfz23_2 := blk_frozen BK112.out 2) | ((with_reducible refine gate_builtin (b := .append) (xs := #[.tmp 92, .tmp 94]) rfl ?_); at_builtin; refine Kd.R_append k33 (w0 := w) w.heap.size rfl (.tmp 92) (.tmp 94) 23 33 (.agg #[(.int .i64 0), (.int .i64 0), (.string ⟨#[]⟩)]) 32 rfl Tryd.underlying23 info33 rfl (by decide) (by omega) u5 x5_1 (⟨6, x6_1, t113⟩ : S33) [.int .i64 6, .int .i64 x6_1, .string t113] (fun k_ => k_ ≠ gb112) (fun _ => False) rfl (by first | (go_simp; done) | (go_simp; rfl)) ?aP (fun _ hk => hk.elim) ?aF ?aO ?aB ?aS ?aL ?_; (case aP => exact k33_mkM _ _ _ (⟨6, x6_1, t113⟩ : S33)); (case aB => exact (by repeat (first | (with_reducible first | exact HB.out | apply below_alloc | apply pw_below_drewN | apply below_drew1 | refine below_set ?_ GE112.out) | exact HB.out))); (case aF => exact (fun k_ hk => Kd.freshB (g := gb112) (o := .cells #[.int .i64 6, .int .i64 x6_1, .string t113] 33 (0, 0)) (by (with_reducible repeat (first | refine blk_drewN ?_ _ | refine blk_drew ?_ | refine blk_alloc ?_ _)); refine blk_put (cs := #[.int .i64 6, .int .i64 x6_1, .string (⟨#[]⟩ : ByteArray)]) ?_ 2 _ rfl; (with_reducible repeat (first | refine blk_drewN ?_ _ | refine blk_drew ?_ | refine blk_alloc ?_ _)); refine blk_put (cs := #[.int .i64 0, .int .i64 x6_1, .string (⟨#[]⟩ : ByteArray)]) ?_ 0 _ rfl; (with_reducible repeat (first | refine blk_drewN ?_ _ | refine blk_drew ?_ | refine blk_alloc ?_ _)); exact BK112.out) k_ hk)); (case aO => exact (by (with_reducible repeat (first | apply Kd.R_alloc | apply Kd.R_drewN | apply Kd.R_drew)); exact Kd.R_mono (Kd.R_far (p := ⟨gb112, 2, none⟩) (Kd.R_far (p := ⟨gb112, 0, none⟩) (Kd.R_mono HO_5.out (fun k_ hk => (⟨hk, hk⟩ : _ ∧ k_ ≠ gb112))) (fun _ hk => hk.2) (.int .i64 6)) (fun _ hk => hk.2) (.string t113)) (fun _ hk => hk.1))); (case aS => exact (below_size (by repeat (first | (with_reducible first | exact HB.out | apply below_alloc | apply pw_below_drewN | apply below_drew1 | refine below_set ?_ GE112.out) | exact HB.out)))); (case aL => have := LMc21.out; omega); intro v117 w24 ho hb hg hat; rw [← Ny116.out] at ho; have n0_ := Aside0.mk (blk_grown (g := gb112) (o := .cells #[.int .i64 6, .int .i64 x6_1, .string t113] 33 (0, 0)) (by (with_reducible repeat (first | refine blk_drewN ?_ _ | refine blk_drew ?_ | refine blk_alloc ?_ _)); refine blk_put (cs := #[.int .i64 6, .int .i64 x6_1, .string (⟨#[]⟩ : ByteArray)]) ?_ 2 _ rfl; (with_reducible repeat (first | refine blk_drewN ?_ _ | refine blk_drew ?_ | refine blk_alloc ?_ _)); refine blk_put (cs := #[.int .i64 0, .int .i64 x6_1, .string (⟨#[]⟩ : ByteArray)]) ?_ 0 _ rfl; (with_reducible repeat (first | refine blk_drewN ?_ _ | refine blk_drew ?_ | refine blk_alloc ?_ _)); exact BK112.out) hg (Kd.R_away HO_5.out (fun _ hk => hk))); have n1_ := Aside0.mk (hb); have n2_ := Aside0.mk (ho); clear BK112; clear HB; clear HO_5; have BK112 := n0_; have HB := n1_; have HO118 := n2_; clear n0_ n1_ n2_; clear ho hb hg hat))
                                go_roundg kj5
                                case measure => have := HK1.out; have := HJ5.out; omega
                                case rel => exact ⟨(y116), (wrap64 (x6_1 + (wrap64 (t114 + 1)))), (by first | rfl | (simp; done) | (simp [*]; done)), H', ⟨by have := HK1.out; have := HJ5.out; omega⟩, ⟨by (with_reducible repeat (first | apply Kd.R_alloc | apply Kd.R_drewN | apply Kd.R_drew)); exact Kd.R_mono HO118.out (fun _ hk => trivial)⟩, ⟨by repeat (first | (with_reducible first | exact HB.out | apply below_alloc | apply pw_below_drewN | apply below_drew1 | refine below_set ?_ GE112.out) | exact HB.out)⟩⟩
                            · rw [if_neg c21] at H
                              exact absurd H (by simp)
                        · replace c17 := Bool.eq_false_iff.mpr c17
                          subst c17
                          have H1 : (some (([] : List (S33)), 171, wrap64 ((ji13) + t114))) = some (r1, r2, r3) := by rw [if_neg (show ¬ (false = true) by decide)] at H; exact H
                          clear H
                          have H := H1
                          clear H1
                          as_aux_lemma =>
                            simp only [Option.some.injEq, Prod.mk.injEq] at H
                            obtain ⟨rfl, rfl, rfl⟩ := H
                            go_wp2_with (first | ((with_reducible refine gate_callee (f := 15) rfl ?_); refine goesL_ (some 46) rfl rfl Tryd.func15 (by kernel_rfl) rfl #[.string (a0.extract ((ji13) : Int).toNat a0.size)] rfl (by (try simp only [List.map_toArray, List.map_cons, List.map_nil]); first | done | (simp only [hji13]; rfl) | rfl | (simp only [List.length_drop, List.length_take]; rfl)) ?_; (with_reducible refine (lexer_literal.calls kj5 (a0.extract ((ji13) : Int).toNat a0.size) t113 t114 false _ A16.out).mono ?_); rintro e w25 ⟨rfl, hb⟩; refine ⟨_, rfl, ?_⟩; have n0_ := Aside0.mk (Kd.R_below (by (with_reducible repeat (first | apply Kd.R_alloc | apply Kd.R_drewN | apply Kd.R_drew)); exact HO_5.out) hb); have n1_ := Aside0.mk (blk_below (g := gb112) (o := .cells #[.int .i64 0, .int .i64 x6_1, .string (⟨#[]⟩ : ByteArray)] 33 (0, 0)) (by (with_reducible repeat (first | refine blk_drewN ?_ _ | refine blk_drew ?_ | refine blk_alloc ?_ _)); exact BK112.out) hb); have n2_ := Aside0.mk (below_step (by repeat (first | (with_reducible first | exact HB.out | apply below_alloc | apply pw_below_drewN | apply below_drew1 | refine below_set ?_ GE112.out) | exact HB.out)) hb); clear HO_5; clear BK112; clear HB; have HO_5 := n0_; have BK112 := n1_; have HB := n2_; clear n0_ n1_ n2_; (try clear hb); (try clear hb2); (try clear hk); (try clear hi)))
                            (try rw [Exit.noGoto_ret])
                            go_ret3
                            exact ⟨_, by first | rfl | (simp [errW_none, errW_some] <;> rfl) | (simp only [← hji13]; first | rfl | (simp [errW_none, errW_some] <;> rfl)) | (simp [*, errW_none, errW_some] <;> rfl), by first | exact Kd.R_nil _ _ _ _ _ | exact Kd.N_nil _ _ _ _ _ | exact Kd.V_nil _ _ _ _ _ | exact Kd.Q_nil _ _ _ _ _ | exact Kd.S_nil _ _ _ _ _, by repeat (first | (with_reducible first | exact HB.out | apply below_alloc | apply pw_below_drewN | apply below_drew1 | refine below_set ?_ GE112.out) | exact HB.out)⟩
                      · rw [if_neg c15] at H
                        exact absurd H (by simp)
                    · rw [if_neg c14] at H
                      exact absurd H (by simp)
                  · rw [if_neg c12] at H
                    have c12b0 : ((bt a0 x6_1) == 34) = false := beq_eq_false_iff_ne.mpr c12
                    have c12b1 : ((bt a0 x6_1) != 34) = true := bne_iff_ne.mpr c12
                    replace H := Option.bind_eq_some_iff.mp H
                    obtain ⟨t119, A260, H⟩ := H
                    replace H : (if t119 = true then (lexer_Split.l1 kj5 a0 x5_1 x6_1 1 0 x6_1 (⟨#[]⟩ : ByteArray)) else ((strings_IndexByte.f (⟨#[40, 41, 91, 93, 94]⟩ : ByteArray) (bt a0 x6_1)).bind fun t129 => (if (wrap64 (t129 + 1)) = 0 then (some (([] : List (S33)), 171, x6_1)) else (if x5_1.length < 4398046511104 then (lexer_Split.l0 kj5 a0 (x5_1 ++ [(⟨wrap64 (t129 + 1), x6_1, (⟨#[]⟩ : ByteArray)⟩ : S33)]) (wrap64 (x6_1 + 1))) else (none))))) = some (r1, r2, r3) := H
                    have A26 := Aside0.mk A260
                    clear A260
                    by_cases c27 : t119 = true
                    · subst c27
                      have H1 : (lexer_Split.l1 kj5 a0 x5_1 x6_1 1 0 x6_1 (⟨#[]⟩ : ByteArray)) = some (r1, r2, r3) := by rw [if_pos rfl] at H; exact H
                      clear H
                      have H := H1
                      clear H1
                      have H' := Aside0.mk H
                      clear H
                      go_wp2_with (first | ((with_reducible refine gate_callee (f := 16) rfl ?_); refine goesL_ (some 63) rfl rfl Tryd.func16 (by kernel_rfl) rfl #[.int .u8 (bt a0 x6_1)] rfl (by (try simp only [List.map_toArray, List.map_cons, List.map_nil]); first | done | rfl | (simp only [List.length_drop, List.length_take]; rfl)) ?_; (with_reducible refine (lexer_letter.calls (bt a0 x6_1) true _ A26.out).mono ?_); rintro e w' ⟨rfl, ⟨nd, rfl⟩⟩; refine ⟨_, rfl, ?_⟩))
                      go_loopg [8] kj5 (fun kq v8 w' => ∃ (x8_3 : Int), v8 = .int .i64 x8_3 ∧ Aside0 (lexer_Split.l1 kq a0 x5_1 x6_1 x8_3 0 x6_1 (⟨#[]⟩ : ByteArray) = some (r1, r2, r3)) ∧ Aside0 (kq ≤ kj5) ∧ Aside0 (Kd.R k33 33 w' w.heap.size (fun k_ => k_ ≠ gb112) u5 x5_1) ∧ Aside0 (w'.heap[gb112]? = some (.cells #[.int .i64 0, .int .i64 x6_1, .string (⟨#[]⟩ : ByteArray)] 33 (0, 0))) ∧ Aside0 (Below w.heap.size w w'))
                      case atStart => exact ⟨(1), (by first | rfl | (simp; done) | (simp [*]; done)), H', ⟨Nat.le_refl _⟩, ⟨by (with_reducible repeat (first | apply Kd.R_alloc | apply Kd.R_drewN | apply Kd.R_drew)); exact HO_5.out⟩, ⟨by (with_reducible repeat (first | refine blk_drewN ?_ _ | refine blk_drew ?_ | refine blk_alloc ?_ _)); exact BK112.out⟩, ⟨by repeat (first | (with_reducible first | exact HB.out | apply below_alloc | apply pw_below_drewN | apply below_drew1 | refine below_set ?_ GE112.out) | exact HB.out)⟩⟩
                      case round =>
                        clear H'
                        try clear c1
                        try clear c2
                        try clear c2b0
                        try clear c2b1
                        try clear p2
                        try clear c3
                        try clear c3b0
                        try clear c4
                        try clear c4b0
                        try clear p5
                        try clear q5
                        try clear hx5
                        try clear p6
                        try clear c9
                        try clear c9b0
                        try clear c9b1
                        try clear c10
                        try clear c10b0
                        try clear c10b1
                        try clear c11
                        try clear c12
                        try clear c12b0
                        try clear c12b1
                        try clear c14
                        try clear c14b0
                        try clear c14b1
                        try clear c15
                        try clear c15b0
                        try clear c15b1
                        try clear c16
                        try clear c17
                        try clear c18
                        try clear c18b0
                        try clear c18b1
                        try clear c21
                        try clear c27
                        try clear hcz20_0
                        try clear hcz20_1
                        try clear hcz20_2
                        try clear hcz23_0
                        try clear hcz23_1
                        try clear hcz23_2
                        try clear hcz8_0
                        try clear hcz8_1
                        try clear hcz8_2
                        try clear hfz20_0
                        try clear hfz20_1
                        try clear hfz20_2
                        try clear hfz23_0
                        try clear hfz23_1
                        try clear hfz23_2
                        try clear hfz8_0
                        try clear hfz8_1
                        try clear hfz8_2
                        try clear p2
                        try clear p5
                        try clear q5
                        obtain ⟨x8_3, rfl, HA, HK3, HO_5, BK112, HB⟩ := hrel
                        cases gk with
                        | zero => exact absurd HA.out (by simp [lexer_Split.l1])
                        | succ k3 =>
                          have H := HA.out
                          clear HA
                          simp only [lexer_Split.l1] at H
                          by_cases c28 : (wrap64 (x6_1 + x8_3)) < (a0.size : Int)
                          · rw [if_pos c28] at H
                            have c28b0 : decide ((wrap64 (x6_1 + x8_3)) < (a0.size : Int)) = true := decide_eq_true c28
                            clear c28
                            obtain ⟨ji29, hji29⟩ : ∃ j_ : Int, (wrap64 (x6_1 + x8_3)) = j_ := ⟨_, rfl⟩
                            replace H : (if 0 ≤ (ji29) then ((lexer_letter.f (bt a0 (ji29))).bind fun t120 => (if t120 = true then (lexer_Split.l1 k3 a0 x5_1 x6_1 (wrap64 (x8_3 + 1)) 0 x6_1 (⟨#[]⟩ : ByteArray)) else (if 0 ≤ x6_1 then (if x6_1 ≤ (ji29) then (if (ji29) ≤ (a0.size : Int) then ((lexer_word.f (a0.extract (x6_1 : Int).toNat ((ji29) : Int).toNat)).bind fun t121 => (if t121 = 0 then (some (([] : List (S33)), 171, x6_1)) else (if x5_1.length < 4398046511104 then (lexer_Split.l0 k3 a0 (x5_1 ++ [(⟨t121, x6_1, (⟨#[]⟩ : ByteArray)⟩ : S33)]) ji29) else (none)))) else (none)) else (none)) else (none)))) else (none)) = some (r1, r2, r3) := by first | (rw [hji29] at H; exact H) | (simp only [hji29] at H ⊢; exact H)
                            (try rw [hji29] at c28b0)
                            have hji29w : (IntKind.i64.wrap (x6_1 + x8_3)) = ji29 := (i64_w _).trans hji29
                            by_cases c30 : 0 ≤ (ji29)
                            · rw [if_pos c30] at H
                              have c30b0 : decide (0 ≤ (ji29)) = true := decide_eq_true c30
                              clear c30
                              replace H := Option.bind_eq_some_iff.mp H
                              obtain ⟨t120, A320, H⟩ := H
                              replace H : (if t120 = true then (lexer_Split.l1 k3 a0 x5_1 x6_1 (wrap64 (x8_3 + 1)) 0 x6_1 (⟨#[]⟩ : ByteArray)) else (if 0 ≤ x6_1 then (if x6_1 ≤ (ji29) then (if (ji29) ≤ (a0.size : Int) then ((lexer_word.f (a0.extract (x6_1 : Int).toNat ((ji29) : Int).toNat)).bind fun t121 => (if t121 = 0 then (some (([] : List (S33)), 171, x6_1)) else (if x5_1.length < 4398046511104 then (lexer_Split.l0 k3 a0 (x5_1 ++ [(⟨t121, x6_1, (⟨#[]⟩ : ByteArray)⟩ : S33)]) ji29) else (none)))) else (none)) else (none)) else (none))) = some (r1, r2, r3) := H
                              have A32 := Aside0.mk A320
                              clear A320
                              by_cases c33 : t120 = true
                              · subst c33
                                have H1 : (lexer_Split.l1 k3 a0 x5_1 x6_1 (wrap64 (x8_3 + 1)) 0 x6_1 (⟨#[]⟩ : ByteArray)) = some (r1, r2, r3) := by rw [if_pos rfl] at H; exact H
                                clear H
                                have H := H1
                                clear H1
                                as_aux_lemma =>
                                  have H' := Aside0.mk H
                                  clear H
                                  have p31 : 0 ≤ ((ji29) : Int) := of_decide_eq_true (by first | (with_reducible assumption) | assumption)
                                  have q31 : (ji29) < (a0.size : Int) := of_decide_eq_true (by first | (with_reducible assumption) | assumption)
                                  have hx31 := bt_at a0 (ji29)
                                  replace p31 := eq_true p31
                                  replace q31 := eq_true q31
                                  go_wp2_with (first | (go_at_call 16; (with_reducible refine (lexer_letter.calls (bt a0 (ji29)) true _ A32.out).mono ?_); rintro e w' ⟨rfl, ⟨nd, rfl⟩⟩))
                                  go_roundg k3
                                  case measure => have := HK1.out; have := HJ5.out; have := HK3.out; omega
                                  case rel => exact ⟨(wrap64 (x8_3 + 1)), (by first | rfl | (simp; done) | (simp [*]; done)), H', ⟨by have := HK1.out; have := HJ5.out; have := HK3.out; omega⟩, ⟨by (with_reducible repeat (first | apply Kd.R_alloc | apply Kd.R_drewN | apply Kd.R_drew)); exact HO_5.out⟩, ⟨by (with_reducible repeat (first | refine blk_drewN ?_ _ | refine blk_drew ?_ | refine blk_alloc ?_ _)); exact BK112.out⟩, ⟨by repeat (first | (with_reducible first | exact HB.out | apply below_alloc | apply pw_below_drewN | apply below_drew1 | refine below_set ?_ GE112.out) | exact HB.out)⟩⟩
                              · replace c33 := Bool.eq_false_iff.mpr c33
                                subst c33
                                have H1 : (if 0 ≤ x6_1 then (if x6_1 ≤ (ji29) then (if (ji29) ≤ (a0.size : Int) then ((lexer_word.f (a0.extract (x6_1 : Int).toNat ((ji29) : Int).toNat)).bind fun t121 => (if t121 = 0 then (some (([] : List (S33)), 171, x6_1)) else (if x5_1.length < 4398046511104 then (lexer_Split.l0 k3 a0 (x5_1 ++ [(⟨t121, x6_1, (⟨#[]⟩ : ByteArray)⟩ : S33)]) ji29) else (none)))) else (none)) else (none)) else (none)) = some (r1, r2, r3) := by rw [if_neg (show ¬ (false = true) by decide)] at H; exact H
                                clear H
                                have H := H1
                                clear H1
                                by_cases c34 : 0 ≤ x6_1
                                · rw [if_pos c34] at H
                                  have c34b0 := eq_true c34
                                  have c34b1 : decide (0 ≤ x6_1) = true := decide_eq_true c34
                                  clear c34
                                  by_cases c35 : x6_1 ≤ (ji29)
                                  · rw [if_pos c35] at H
                                    have c35b0 := eq_true c35
                                    have c35b1 : decide (x6_1 ≤ (ji29)) = true := decide_eq_true c35
                                    clear c35
                                    by_cases c36 : (ji29) ≤ (a0.size : Int)
                                    · rw [if_pos c36] at H
                                      have c36b0 := eq_true c36
                                      have c36b1 : decide ((ji29) ≤ (a0.size : Int)) = true := decide_eq_true c36
                                      clear c36
                                      replace H := Option.bind_eq_some_iff.mp H
                                      obtain ⟨t121, A370, H⟩ := H
                                      replace H : (if t121 = 0 then (some (([] : List (S33)), 171, x6_1)) else (if x5_1.length < 4398046511104 then (lexer_Split.l0 k3 a0 (x5_1 ++ [(⟨t121, x6_1, (⟨#[]⟩ : ByteArray)⟩ : S33)]) ji29) else (none))) = some (r1, r2, r3) := H
                                      have A37 := Aside0.mk A370
                                      clear A370
                                      by_cases c38 : t121 = 0
                                      · rw [if_pos c38] at H
                                        have c38b0 : (t121 == 0) = true := beq_iff_eq.mpr c38
                                        have c38b1 : (t121 != 0) = false := bne_eq_false_iff_eq.mpr c38
                                        clear c38
                                        as_aux_lemma =>
                                          simp only [Option.some.injEq, Prod.mk.injEq] at H
                                          obtain ⟨rfl, rfl, rfl⟩ := H
                                          have p31 : 0 ≤ ((ji29) : Int) := of_decide_eq_true (by first | (with_reducible assumption) | assumption)
                                          have q31 : (ji29) < (a0.size : Int) := of_decide_eq_true (by first | (with_reducible assumption) | assumption)
                                          have hx31 := bt_at a0 (ji29)
                                          replace p31 := eq_true p31
                                          replace q31 := eq_true q31
                                          go_wp2_with (first | (go_at_call 16; (with_reducible refine (lexer_letter.calls (bt a0 (ji29)) false _ A32.out).mono ?_); rintro e w' ⟨rfl, ⟨nd, rfl⟩⟩; (try (rw [drewN_self wr]; generalize hq_ : World.drewN wr _ = wr; have n0_ : Aside0 (Kd.R k33 33 wr w.heap.size (fun k_ => k_ ≠ gb112) u5 x5_1) := ⟨by rw [← hq_]; exact (by (with_reducible repeat (first | apply Kd.R_alloc | apply Kd.R_drewN | apply Kd.R_drew)); exact HO_5.out)⟩; have n1_ : Aside0 (wr.heap[gb112]? = some (.cells #[.int .i64 0, .int .i64 x6_1, .string (⟨#[]⟩ : ByteArray)] 33 (0, 0))) := ⟨by rw [← hq_]; exact (by (with_reducible repeat (first | refine blk_drewN ?_ _ | refine blk_drew ?_ | refine blk_alloc ?_ _)); exact BK112.out)⟩; have n2_ : Aside0 (Below w.heap.size w wr) := ⟨by rw [← hq_]; exact (by repeat (first | (with_reducible first | exact HB.out | apply below_alloc | apply pw_below_drewN | apply below_drew1 | refine below_set ?_ GE112.out) | exact HB.out))⟩; clear HO_5 BK112 HB hq_; have HO_5 := n0_; have BK112 := n1_; have HB := n2_; clear n0_ n1_ n2_))) | ((with_reducible refine gate_callee (f := 17) rfl ?_); refine goesL_ (some 86) rfl rfl Tryd.func17 (by kernel_rfl) rfl #[.string (a0.extract (x6_1 : Int).toNat ((ji29) : Int).toNat)] rfl (by (try simp only [List.map_toArray, List.map_cons, List.map_nil]); first | done | (simp only [hji29]; rfl) | rfl | (simp only [List.length_drop, List.length_take]; rfl)) ?_; (with_reducible refine (lexer_word.calls (a0.extract (x6_1 : Int).toNat ((ji29) : Int).toNat) t121 _ A37.out).mono ?_); rintro e w' ⟨rfl, ⟨nd, rfl⟩⟩; refine ⟨_, rfl, ?_⟩; (try (rw [drewN_self wr]; generalize hq_ : World.drewN wr _ = wr; have n0_ : Aside0 (Kd.R k33 33 wr w.heap.size (fun k_ => k_ ≠ gb112) u5 x5_1) := ⟨by rw [← hq_]; exact (by (with_reducible repeat (first | apply Kd.R_alloc | apply Kd.R_drewN | apply Kd.R_drew)); exact HO_5.out)⟩; have n1_ : Aside0 (wr.heap[gb112]? = some (.cells #[.int .i64 0, .int .i64 x6_1, .string (⟨#[]⟩ : ByteArray)] 33 (0, 0))) := ⟨by rw [← hq_]; exact (by (with_reducible repeat (first | refine blk_drewN ?_ _ | refine blk_drew ?_ | refine blk_alloc ?_ _)); exact BK112.out)⟩; have n2_ : Aside0 (Below w.heap.size w wr) := ⟨by rw [← hq_]; exact (by repeat (first | (with_reducible first | exact HB.out | apply below_alloc | apply pw_below_drewN | apply below_drew1 | refine below_set ?_ GE112.out) | exact HB.out))⟩; clear HO_5 BK112 HB hq_; have HO_5 := n0_; have BK112 := n1_; have HB := n2_; clear n0_ n1_ n2_)); have hcz39_0 : wr.cell? ⟨gb112, 0, none⟩ = some (.int .i64 0) := (blk_cell BK112.out 0).trans rfl; have hcz39_1 : wr.cell? ⟨gb112, 1, none⟩ = some (.int .i64 x6_1) := (blk_cell BK112.out 1).trans rfl; have hcz39_2 : wr.cell? ⟨gb112, 2, none⟩ = some (.string (⟨#[]⟩ : ByteArray)) := (blk_cell BK112.out 2).trans rfl; have hfz39_0 := blk_frozen BK112.out 0; have hfz39_1 := blk_frozen BK112.out 1; have hfz39_2 := blk_frozen BK112.out 2))
                                          (try rw [Exit.noGoto_ret])
                                          go_ret3
                                          exact ⟨_, by first | rfl | (simp [errW_none, errW_some] <;> rfl) | (simp only [← hji29]; first | rfl | (simp [errW_none, errW_some] <;> rfl)) | (simp [*, errW_none, errW_some] <;> rfl), by first | exact Kd.R_nil _ _ _ _ _ | exact Kd.N_nil _ _ _ _ _ | exact Kd.V_nil _ _ _ _ _ | exact Kd.Q_nil _ _ _ _ _ | exact Kd.S_nil _ _ _ _ _, by repeat (first | (with_reducible first | exact HB.out | apply below_alloc | apply pw_below_drewN | apply below_drew1 | refine below_set ?_ GE112.out) | exact HB.out)⟩
                                      · rw [if_neg c38] at H
                                        have c38b0 : (t121 == 0) = false := beq_eq_false_iff_ne.mpr c38
                                        have c38b1 : (t121 != 0) = true := bne_iff_ne.mpr c38
                                        by_cases c40 : x5_1.length < 4398046511104
                                        · rw [if_pos c40] at H
                                          have LMc40 := Aside0.mk c40
                                          clear c40
                                          obtain ⟨y122, hy122⟩ : ∃ y_ : List (S33), y_ = (x5_1 ++ [(⟨t121, x6_1, (⟨#[]⟩ : ByteArray)⟩ : S33)]) := ⟨_, rfl⟩
                                          replace H : (lexer_Split.l0 k3 a0 y122 ji29) = some (r1, r2, r3) := by first | (rw [hy122]; with_reducible exact H) | (have H2_ := (Option.bind_some _ _).symm.trans H; rw [hy122]; with_reducible exact H2_) | (have H2_ := (Option.bind_some _ _).symm.trans H; with_reducible exact H2_) | with_reducible exact H | (rw [hy122]; exact H) | exact H
                                          have Ny122 := Aside0.mk hy122
                                          clear hy122
                                          as_aux_lemma =>
                                            have H' := Aside0.mk H
                                            clear H
                                            have p31 : 0 ≤ ((ji29) : Int) := of_decide_eq_true (by first | (with_reducible assumption) | assumption)
                                            have q31 : (ji29) < (a0.size : Int) := of_decide_eq_true (by first | (with_reducible assumption) | assumption)
                                            have hx31 := bt_at a0 (ji29)
                                            replace p31 := eq_true p31
                                            replace q31 := eq_true q31
                                            go_wp2_with (first | (go_at_call 16; (with_reducible refine (lexer_letter.calls (bt a0 (ji29)) false _ A32.out).mono ?_); rintro e w' ⟨rfl, ⟨nd, rfl⟩⟩; (try (rw [drewN_self wr]; generalize hq_ : World.drewN wr _ = wr; have n0_ : Aside0 (Kd.R k33 33 wr w.heap.size (fun k_ => k_ ≠ gb112) u5 x5_1) := ⟨by rw [← hq_]; exact (by (with_reducible repeat (first | apply Kd.R_alloc | apply Kd.R_drewN | apply Kd.R_drew)); exact HO_5.out)⟩; have n1_ : Aside0 (wr.heap[gb112]? = some (.cells #[.int .i64 0, .int .i64 x6_1, .string (⟨#[]⟩ : ByteArray)] 33 (0, 0))) := ⟨by rw [← hq_]; exact (by (with_reducible repeat (first | refine blk_drewN ?_ _ | refine blk_drew ?_ | refine blk_alloc ?_ _)); exact BK112.out)⟩; have n2_ : Aside0 (Below w.heap.size w wr) := ⟨by rw [← hq_]; exact (by repeat (first | (with_reducible first | exact HB.out | apply below_alloc | apply pw_below_drewN | apply below_drew1 | refine below_set ?_ GE112.out) | exact HB.out))⟩; clear HO_5 BK112 HB hq_; have HO_5 := n0_; have BK112 := n1_; have HB := n2_; clear n0_ n1_ n2_))) | ((with_reducible refine gate_callee (f := 17) rfl ?_); refine goesL_ (some 86) rfl rfl Tryd.func17 (by kernel_rfl) rfl #[.string (a0.extract (x6_1 : Int).toNat ((ji29) : Int).toNat)] rfl (by (try simp only [List.map_toArray, List.map_cons, List.map_nil]); first | done | (simp only [hji29]; rfl) | rfl | (simp only [List.length_drop, List.length_take]; rfl)) ?_; (with_reducible refine (lexer_word.calls (a0.extract (x6_1 : Int).toNat ((ji29) : Int).toNat) t121 _ A37.out).mono ?_); rintro e w' ⟨rfl, ⟨nd, rfl⟩⟩; refine ⟨_, rfl, ?_⟩; (try (rw [drewN_self wr]; generalize hq_ : World.drewN wr _ = wr; have n0_ : Aside0 (Kd.R k33 33 wr w.heap.size (fun k_ => k_ ≠ gb112) u5 x5_1) := ⟨by rw [← hq_]; exact (by (with_reducible repeat (first | apply Kd.R_alloc | apply Kd.R_drewN | apply Kd.R_drew)); exact HO_5.out)⟩; have n1_ : Aside0 (wr.heap[gb112]? = some (.cells #[.int .i64 0, .int .i64 x6_1, .string (⟨#[]⟩ : ByteArray)] 33 (0, 0))) := ⟨by rw [← hq_]; exact (by (with_reducible repeat (first | refine blk_drewN ?_ _ | refine blk_drew ?_ | refine blk_alloc ?_ _)); exact BK112.out)⟩; have n2_ : Aside0 (Below w.heap.size w wr) := ⟨by rw [← hq_]; exact (by repeat (first | (with_reducible first | exact HB.out | apply below_alloc | apply pw_below_drewN | apply below_drew1 | refine below_set ?_ GE112.out) | exact HB.out))⟩; clear HO_5 BK112 HB hq_; have HO_5 := n0_; have BK112 := n1_; have HB := n2_; clear n0_ n1_ n2_)); have hcz41_0 : wr.cell? ⟨gb112, 0, none⟩ = some (.int .i64 0) := (blk_cell BK112.out 0).trans rfl; have hcz41_1 : wr.cell? ⟨gb112, 1, none⟩ = some (.int .i64 x6_1) := (blk_cell BK112.out 1).trans rfl; have hcz41_2 : wr.cell? ⟨gb112, 2, none⟩ = some (.string (⟨#[]⟩ : ByteArray)) := (blk_cell BK112.out 2).trans rfl; have hfz41_0 := blk_frozen BK112.out 0; have hfz41_1 := blk_frozen BK112.out 1; have hfz41_2 := blk_frozen BK112.out 2) | ((with_reducible refine gate_builtin (b := .append) (xs := #[.tmp 92, .tmp 94]) rfl ?_); at_builtin; refine Kd.R_append k33 (w0 := w) w.heap.size rfl (.tmp 92) (.tmp 94) 23 33 (.agg #[(.int .i64 0), (.int .i64 0), (.string ⟨#[]⟩)]) 32 rfl Tryd.underlying23 info33 rfl (by decide) (by omega) u5 x5_1 (⟨t121, x6_1, (⟨#[]⟩ : ByteArray)⟩ : S33) [.int .i64 t121, .int .i64 x6_1, .string (⟨#[]⟩ : ByteArray)] (fun k_ => k_ ≠ gb112) (fun _ => False) rfl (by first | (go_simp; done) | (go_simp; rfl)) ?aP (fun _ hk => hk.elim) ?aF ?aO ?aB ?aS ?aL ?_; (case aP => exact k33_mkM _ _ _ (⟨t121, x6_1, (⟨#[]⟩ : ByteArray)⟩ : S33)); (case aB => exact (by repeat (first | (with_reducible first | exact HB.out | apply below_alloc | apply pw_below_drewN | apply below_drew1 | refine below_set ?_ GE112.out) | exact HB.out))); (case aF => exact (fun k_ hk => Kd.freshB (g := gb112) (o := .cells #[.int .i64 t121, .int .i64 x6_1, .string (⟨#[]⟩ : ByteArray)] 33 (0, 0)) (by (with_reducible repeat (first | refine blk_drewN ?_ _ | refine blk_drew ?_ | refine blk_alloc ?_ _)); refine blk_put (cs := #[.int .i64 0, .int .i64 x6_1, .string (⟨#[]⟩ : ByteArray)]) ?_ 0 _ rfl; (with_reducible repeat (first | refine blk_drewN ?_ _ | refine blk_drew ?_ | refine blk_alloc ?_ _)); exact BK112.out) k_ hk)); (case aO => exact (by (with_reducible repeat (first | apply Kd.R_alloc | apply Kd.R_drewN | apply Kd.R_drew)); exact Kd.R_mono (Kd.R_far (p := ⟨gb112, 0, none⟩) (Kd.R_mono HO_5.out (fun k_ hk => (⟨hk, hk⟩ : _ ∧ k_ ≠ gb112))) (fun _ hk => hk.2) (.int .i64 t121)) (fun _ hk => hk.1))); (case aS => exact (below_size (by repeat (first | (with_reducible first | exact HB.out | apply below_alloc | apply pw_below_drewN | apply below_drew1 | refine below_set ?_ GE112.out) | exact HB.out)))); (case aL => have := LMc40.out; omega); intro v123 w42 ho hb hg hat; rw [← Ny122.out] at ho; have n0_ := Aside0.mk (blk_grown (g := gb112) (o := .cells #[.int .i64 t121, .int .i64 x6_1, .string (⟨#[]⟩ : ByteArray)] 33 (0, 0)) (by (with_reducible repeat (first | refine blk_drewN ?_ _ | refine blk_drew ?_ | refine blk_alloc ?_ _)); refine blk_put (cs := #[.int .i64 0, .int .i64 x6_1, .string (⟨#[]⟩ : ByteArray)]) ?_ 0 _ rfl; (with_reducible repeat (first | refine blk_drewN ?_ _ | refine blk_drew ?_ | refine blk_alloc ?_ _)); exact BK112.out) hg (Kd.R_away HO_5.out (fun _ hk => hk))); have n1_ := Aside0.mk (hb); have n2_ := Aside0.mk (ho); clear BK112; clear HB; clear HO_5; have BK112 := n0_; have HB := n1_; have HO124 := n2_; clear n0_ n1_ n2_; clear ho hb hg hat))
                                            go_roundg k3
                                            case measure => have := HK1.out; have := HJ5.out; have := HK3.out; omega
                                            case rel => exact ⟨(y122), (ji29), (by first | rfl | (simp; done) | (simp only [← hji29] <;> (first | rfl | simp)) | (simp [*]; done)), H', ⟨by have := HK1.out; have := HJ5.out; have := HK3.out; omega⟩, ⟨by (with_reducible repeat (first | apply Kd.R_alloc | apply Kd.R_drewN | apply Kd.R_drew)); exact Kd.R_mono HO124.out (fun _ hk => trivial)⟩, ⟨by repeat (first | (with_reducible first | exact HB.out | apply below_alloc | apply pw_below_drewN | apply below_drew1 | refine below_set ?_ GE112.out) | exact HB.out)⟩⟩
                                        · rw [if_neg c40] at H
                                          exact absurd H (by simp)
                                    · rw [if_neg c36] at H
                                      exact absurd H (by simp)
                                  · rw [if_neg c35] at H
                                    exact absurd H (by simp)
                                · rw [if_neg c34] at H
                                  exact absurd H (by simp)
                            · rw [if_neg c30] at H
                              exact absurd H (by simp)
                          · rw [if_neg c28] at H
                            have c28b0 : decide ((wrap64 (x6_1 + x8_3)) < (a0.size : Int)) = false := decide_eq_false c28
                            clear c28
                            by_cases c43 : 0 ≤ x6_1
                            · rw [if_pos c43] at H
                              have c43b0 := eq_true c43
                              have c43b1 : decide (0 ≤ x6_1) = true := decide_eq_true c43
                              clear c43
                              by_cases c44 : x6_1 ≤ (wrap64 (x6_1 + x8_3))
                              · rw [if_pos c44] at H
                                have c44b0 := eq_true c44
                                have c44b1 : decide (x6_1 ≤ (wrap64 (x6_1 + x8_3))) = true := decide_eq_true c44
                                by_cases c45 : (wrap64 (x6_1 + x8_3)) ≤ (a0.size : Int)
                                · rw [if_pos c45] at H
                                  have c45b0 := eq_true c45
                                  have c45b1 : decide ((wrap64 (x6_1 + x8_3)) ≤ (a0.size : Int)) = true := decide_eq_true c45
                                  replace H := Option.bind_eq_some_iff.mp H
                                  obtain ⟨t125, A460, H⟩ := H
                                  replace H : (if t125 = 0 then (some (([] : List (S33)), 171, x6_1)) else (if x5_1.length < 4398046511104 then (lexer_Split.l0 k3 a0 (x5_1 ++ [(⟨t125, x6_1, (⟨#[]⟩ : ByteArray)⟩ : S33)]) (wrap64 (x6_1 + x8_3))) else (none))) = some (r1, r2, r3) := H
                                  have A46 := Aside0.mk A460
                                  clear A460
                                  by_cases c47 : t125 = 0
                                  · rw [if_pos c47] at H
                                    have c47b0 : (t125 == 0) = true := beq_iff_eq.mpr c47
                                    have c47b1 : (t125 != 0) = false := bne_eq_false_iff_eq.mpr c47
                                    clear c47
                                    as_aux_lemma =>
                                      simp only [Option.some.injEq, Prod.mk.injEq] at H
                                      obtain ⟨rfl, rfl, rfl⟩ := H
                                      go_wp2_with (first | ((with_reducible refine gate_callee (f := 17) rfl ?_); refine goesL_ (some 86) rfl rfl Tryd.func17 (by kernel_rfl) rfl #[.string (a0.extract (x6_1 : Int).toNat ((wrap64 (x6_1 + x8_3)) : Int).toNat)] rfl (by (try simp only [List.map_toArray, List.map_cons, List.map_nil]); first | done | rfl | (simp only [List.length_drop, List.length_take]; rfl)) ?_; (with_reducible refine (lexer_word.calls (a0.extract (x6_1 : Int).toNat ((wrap64 (x6_1 + x8_3)) : Int).toNat) t125 _ A46.out).mono ?_); rintro e w' ⟨rfl, ⟨nd, rfl⟩⟩; refine ⟨_, rfl, ?_⟩; (try (rw [drewN_self wr]; generalize hq_ : World.drewN wr _ = wr; have n0_ : Aside0 (Kd.R k33 33 wr w.heap.size (fun k_ => k_ ≠ gb112) u5 x5_1) := ⟨by rw [← hq_]; exact (by (with_reducible repeat (first | apply Kd.R_alloc | apply Kd.R_drewN | apply Kd.R_drew)); exact HO_5.out)⟩; have n1_ : Aside0 (wr.heap[gb112]? = some (.cells #[.int .i64 0, .int .i64 x6_1, .string (⟨#[]⟩ : ByteArray)] 33 (0, 0))) := ⟨by rw [← hq_]; exact (by (with_reducible repeat (first | refine blk_drewN ?_ _ | refine blk_drew ?_ | refine blk_alloc ?_ _)); exact BK112.out)⟩; have n2_ : Aside0 (Below w.heap.size w wr) := ⟨by rw [← hq_]; exact (by repeat (first | (with_reducible first | exact HB.out | apply below_alloc | apply pw_below_drewN | apply below_drew1 | refine below_set ?_ GE112.out) | exact HB.out))⟩; clear HO_5 BK112 HB hq_; have HO_5 := n0_; have BK112 := n1_; have HB := n2_; clear n0_ n1_ n2_)); have hcz48_0 : wr.cell? ⟨gb112, 0, none⟩ = some (.int .i64 0) := (blk_cell BK112.out 0).trans rfl; have hcz48_1 : wr.cell? ⟨gb112, 1, none⟩ = some (.int .i64 x6_1) := (blk_cell BK112.out 1).trans rfl; have hcz48_2 : wr.cell? ⟨gb112, 2, none⟩ = some (.string (⟨#[]⟩ : ByteArray)) := (blk_cell BK112.out 2).trans rfl; have hfz48_0 := blk_frozen BK112.out 0; have hfz48_1 := blk_frozen BK112.out 1; have hfz48_2 := blk_frozen BK112.out 2))
                                      (try rw [Exit.noGoto_ret])
                                      go_ret3
                                      exact ⟨_, by first | rfl | (simp [errW_none, errW_some] <;> rfl) | (simp [*, errW_none, errW_some] <;> rfl), by first | exact Kd.R_nil _ _ _ _ _ | exact Kd.N_nil _ _ _ _ _ | exact Kd.V_nil _ _ _ _ _ | exact Kd.Q_nil _ _ _ _ _ | exact Kd.S_nil _ _ _ _ _, by repeat (first | (with_reducible first | exact HB.out | apply below_alloc | apply pw_below_drewN | apply below_drew1 | refine below_set ?_ GE112.out) | exact HB.out)⟩
                                  · rw [if_neg c47] at H
                                    have c47b0 : (t125 == 0) = false := beq_eq_false_iff_ne.mpr c47
                                    have c47b1 : (t125 != 0) = true := bne_iff_ne.mpr c47
                                    by_cases c49 : x5_1.length < 4398046511104
                                    · rw [if_pos c49] at H
                                      have LMc49 := Aside0.mk c49
                                      clear c49
                                      obtain ⟨y126, hy126⟩ : ∃ y_ : List (S33), y_ = (x5_1 ++ [(⟨t125, x6_1, (⟨#[]⟩ : ByteArray)⟩ : S33)]) := ⟨_, rfl⟩
                                      replace H : (lexer_Split.l0 k3 a0 y126 (wrap64 (x6_1 + x8_3))) = some (r1, r2, r3) := by first | (rw [hy126]; with_reducible exact H) | (have H2_ := (Option.bind_some _ _).symm.trans H; rw [hy126]; with_reducible exact H2_) | (have H2_ := (Option.bind_some _ _).symm.trans H; with_reducible exact H2_) | with_reducible exact H | (rw [hy126]; exact H) | exact H
                                      have Ny126 := Aside0.mk hy126
                                      clear hy126
                                      as_aux_lemma =>
                                        have H' := Aside0.mk H
                                        clear H
                                        go_wp2_with (first | ((with_reducible refine gate_callee (f := 17) rfl ?_); refine goesL_ (some 86) rfl rfl Tryd.func17 (by kernel_rfl) rfl #[.string (a0.extract (x6_1 : Int).toNat ((wrap64 (x6_1 + x8_3)) : Int).toNat)] rfl (by (try simp only [List.map_toArray, List.map_cons, List.map_nil]); first | done | rfl | (simp only [List.length_drop, List.length_take]; rfl)) ?_; (with_reducible refine (lexer_word.calls (a0.extract (x6_1 : Int).toNat ((wrap64 (x6_1 + x8_3)) : Int).toNat) t125 _ A46.out).mono ?_); rintro e w' ⟨rfl, ⟨nd, rfl⟩⟩; refine ⟨_, rfl, ?_⟩; (try (rw [drewN_self wr]; generalize hq_ : World.drewN wr _ = wr; have n0_ : Aside0 (Kd.R k33 33 wr w.heap.size (fun k_ => k_ ≠ gb112) u5 x5_1) := ⟨by rw [← hq_]; exact (by (with_reducible repeat (first | apply Kd.R_alloc | apply Kd.R_drewN | apply Kd.R_drew)); exact HO_5.out)⟩; have n1_ : Aside0 (wr.heap[gb112]? = some (.cells #[.int .i64 0, .int .i64 x6_1, .string (⟨#[]⟩ : ByteArray)] 33 (0, 0))) := ⟨by rw [← hq_]; exact (by (with_reducible repeat (first | refine blk_drewN ?_ _ | refine blk_drew ?_ | refine blk_alloc ?_ _)); exact BK112.out)⟩; have n2_ : Aside0 (Below w.heap.size w wr) := ⟨by rw [← hq_]; exact (by repeat (first | (with_reducible first | exact HB.out | apply below_alloc | apply pw_below_drewN | apply below_drew1 | refine below_set ?_ GE112.out) | exact HB.out))⟩; clear HO_5 BK112 HB hq_; have HO_5 := n0_; have BK112 := n1_; have HB := n2_; clear n0_ n1_ n2_)); have hcz50_0 : wr.cell? ⟨gb112, 0, none⟩ = some (.int .i64 0) := (blk_cell BK112.out 0).trans rfl; have hcz50_1 : wr.cell? ⟨gb112, 1, none⟩ = some (.int .i64 x6_1) := (blk_cell BK112.out 1).trans rfl; have hcz50_2 : wr.cell? ⟨gb112, 2, none⟩ = some (.string (⟨#[]⟩ : ByteArray)) := (blk_cell BK112.out 2).trans rfl; have hfz50_0 := blk_frozen BK112.out 0; have hfz50_1 := blk_frozen BK112.out 1; have hfz50_2 := blk_frozen BK112.out 2) | ((with_reducible refine gate_builtin (b := .append) (xs := #[.tmp 92, .tmp 94]) rfl ?_); at_builtin; refine Kd.R_append k33 (w0 := w) w.heap.size rfl (.tmp 92) (.tmp 94) 23 33 (.agg #[(.int .i64 0), (.int .i64 0), (.string ⟨#[]⟩)]) 32 rfl Tryd.underlying23 info33 rfl (by decide) (by omega) u5 x5_1 (⟨t125, x6_1, (⟨#[]⟩ : ByteArray)⟩ : S33) [.int .i64 t125, .int .i64 x6_1, .string (⟨#[]⟩ : ByteArray)] (fun k_ => k_ ≠ gb112) (fun _ => False) rfl (by first | (go_simp; done) | (go_simp; rfl)) ?aP (fun _ hk => hk.elim) ?aF ?aO ?aB ?aS ?aL ?_; (case aP => exact k33_mkM _ _ _ (⟨t125, x6_1, (⟨#[]⟩ : ByteArray)⟩ : S33)); (case aB => exact (by repeat (first | (with_reducible first | exact HB.out | apply below_alloc | apply pw_below_drewN | apply below_drew1 | refine below_set ?_ GE112.out) | exact HB.out))); (case aF => exact (fun k_ hk => Kd.freshB (g := gb112) (o := .cells #[.int .i64 t125, .int .i64 x6_1, .string (⟨#[]⟩ : ByteArray)] 33 (0, 0)) (by (with_reducible repeat (first | refine blk_drewN ?_ _ | refine blk_drew ?_ | refine blk_alloc ?_ _)); refine blk_put (cs := #[.int .i64 0, .int .i64 x6_1, .string (⟨#[]⟩ : ByteArray)]) ?_ 0 _ rfl; (with_reducible repeat (first | refine blk_drewN ?_ _ | refine blk_drew ?_ | refine blk_alloc ?_ _)); exact BK112.out) k_ hk)); (case aO => exact (by (with_reducible repeat (first | apply Kd.R_alloc | apply Kd.R_drewN | apply Kd.R_drew)); exact Kd.R_mono (Kd.R_far (p := ⟨gb112, 0, none⟩) (Kd.R_mono HO_5.out (fun k_ hk => (⟨hk, hk⟩ : _ ∧ k_ ≠ gb112))) (fun _ hk => hk.2) (.int .i64 t125)) (fun _ hk => hk.1))); (case aS => exact (below_size (by repeat (first | (with_reducible first | exact HB.out | apply below_alloc | apply pw_below_drewN | apply below_drew1 | refine below_set ?_ GE112.out) | exact HB.out)))); (case aL => have := LMc49.out; omega); intro v127 w51 ho hb hg hat; rw [← Ny126.out] at ho; have n0_ := Aside0.mk (blk_grown (g := gb112) (o := .cells #[.int .i64 t125, .int .i64 x6_1, .string (⟨#[]⟩ : ByteArray)] 33 (0, 0)) (by (with_reducible repeat (first | refine blk_drewN ?_ _ | refine blk_drew ?_ | refine blk_alloc ?_ _)); refine blk_put (cs := #[.int .i64 0, .int .i64 x6_1, .string (⟨#[]⟩ : ByteArray)]) ?_ 0 _ rfl; (with_reducible repeat (first | refine blk_drewN ?_ _ | refine blk_drew ?_ | refine blk_alloc ?_ _)); exact BK112.out) hg (Kd.R_away HO_5.out (fun _ hk => hk))); have n1_ := Aside0.mk (hb); have n2_ := Aside0.mk (ho); clear BK112; clear HB; clear HO_5; have BK112 := n0_; have HB := n1_; have HO128 := n2_; clear n0_ n1_ n2_; clear ho hb hg hat))
                                        go_roundg k3
                                        case measure => have := HK1.out; have := HJ5.out; have := HK3.out; omega
                                        case rel => exact ⟨(y126), (wrap64 (x6_1 + x8_3)), (by first | rfl | (simp; done) | (simp [*]; done)), H', ⟨by have := HK1.out; have := HJ5.out; have := HK3.out; omega⟩, ⟨by (with_reducible repeat (first | apply Kd.R_alloc | apply Kd.R_drewN | apply Kd.R_drew)); exact Kd.R_mono HO128.out (fun _ hk => trivial)⟩, ⟨by repeat (first | (with_reducible first | exact HB.out | apply below_alloc | apply pw_below_drewN | apply below_drew1 | refine below_set ?_ GE112.out) | exact HB.out)⟩⟩
                                    · rw [if_neg c49] at H
                                      exact absurd H (by simp)
                                · rw [if_neg c45] at H
                                  exact absurd H (by simp)
                              · rw [if_neg c44] at H
                                exact absurd H (by simp)
                            · rw [if_neg c43] at H
                              exact absurd H (by simp)
                    · replace c27 := Bool.eq_false_iff.mpr c27
                      subst c27
                      have H1 : ((strings_IndexByte.f (⟨#[40, 41, 91, 93, 94]⟩ : ByteArray) (bt a0 x6_1)).bind fun t129 => (if (wrap64 (t129 + 1)) = 0 then (some (([] : List (S33)), 171, x6_1)) else (if x5_1.length < 4398046511104 then (lexer_Split.l0 kj5 a0 (x5_1 ++ [(⟨wrap64 (t129 + 1), x6_1, (⟨#[]⟩ : ByteArray)⟩ : S33)]) (wrap64 (x6_1 + 1))) else (none)))) = some (r1, r2, r3) := by rw [if_neg (show ¬ (false = true) by decide)] at H; exact H
                      clear H
                      have H := H1
                      clear H1
                      replace H := Option.bind_eq_some_iff.mp H
                      obtain ⟨t129, A520, H⟩ := H
                      replace H : (if (wrap64 (t129 + 1)) = 0 then (some (([] : List (S33)), 171, x6_1)) else (if x5_1.length < 4398046511104 then (lexer_Split.l0 kj5 a0 (x5_1 ++ [(⟨wrap64 (t129 + 1), x6_1, (⟨#[]⟩ : ByteArray)⟩ : S33)]) (wrap64 (x6_1 + 1))) else (none))) = some (r1, r2, r3) := H
                      have A52 := Aside0.mk A520
                      clear A520
                      by_cases c53 : (wrap64 (t129 + 1)) = 0
                      · rw [if_pos c53] at H
                        have c53b0 : ((wrap64 (t129 + 1)) == 0) = true := beq_iff_eq.mpr c53
                        have c53b1 : ((wrap64 (t129 + 1)) != 0) = false := bne_eq_false_iff_eq.mpr c53
                        clear c53
                        as_aux_lemma =>
                          simp only [Option.some.injEq, Prod.mk.injEq] at H
                          obtain ⟨rfl, rfl, rfl⟩ := H
                          go_wp2_with (first | ((with_reducible refine gate_callee (f := 16) rfl ?_); refine goesL_ (some 63) rfl rfl Tryd.func16 (by kernel_rfl) rfl #[.int .u8 (bt a0 x6_1)] rfl (by (try simp only [List.map_toArray, List.map_cons, List.map_nil]); first | done | rfl | (simp only [List.length_drop, List.length_take]; rfl)) ?_; (with_reducible refine (lexer_letter.calls (bt a0 x6_1) false _ A26.out).mono ?_); rintro e w' ⟨rfl, ⟨nd, rfl⟩⟩; refine ⟨_, rfl, ?_⟩; (try (rw [drewN_self wc]; generalize hq_ : World.drewN wc _ = wc; have n0_ : Aside0 (Kd.R k33 33 wc w.heap.size (fun k_ => k_ ≠ gb112) u5 x5_1) := ⟨by rw [← hq_]; exact (by (with_reducible repeat (first | apply Kd.R_alloc | apply Kd.R_drewN | apply Kd.R_drew)); exact HO_5.out)⟩; have n1_ : Aside0 (wc.heap[gb112]? = some (.cells #[.int .i64 0, .int .i64 x6_1, .string (⟨#[]⟩ : ByteArray)] 33 (0, 0))) := ⟨by rw [← hq_]; exact (by (with_reducible repeat (first | refine blk_drewN ?_ _ | refine blk_drew ?_ | refine blk_alloc ?_ _)); exact BK112.out)⟩; have n2_ : Aside0 (Below w.heap.size w wc) := ⟨by rw [← hq_]; exact (by repeat (first | (with_reducible first | exact HB.out | apply below_alloc | apply pw_below_drewN | apply below_drew1 | refine below_set ?_ GE112.out) | exact HB.out))⟩; clear HO_5 BK112 HB hq_; have HO_5 := n0_; have BK112 := n1_; have HB := n2_; clear n0_ n1_ n2_))) | ((with_reducible refine gate_callee (f := 18) rfl ?_); refine goesL_ (some 26) rfl rfl Tryd.func18 (by kernel_rfl) rfl #[.string (⟨#[40, 41, 91, 93, 94]⟩ : ByteArray), .int .u8 (bt a0 x6_1)] rfl (by (try simp only [List.map_toArray, List.map_cons, List.map_nil]); first | done | rfl | (simp only [List.length_drop, List.length_take]; rfl)) ?_; (with_reducible refine (strings_IndexByte.calls (⟨#[40, 41, 91, 93, 94]⟩ : ByteArray) (bt a0 x6_1) t129 _ A52.out).mono ?_); rintro e w' ⟨rfl, ⟨nd, rfl⟩⟩; refine ⟨_, rfl, ?_⟩; (try (rw [drewN_self wc]; generalize hq_ : World.drewN wc _ = wc; have n0_ : Aside0 (Kd.R k33 33 wc w.heap.size (fun k_ => k_ ≠ gb112) u5 x5_1) := ⟨by rw [← hq_]; exact (by (with_reducible repeat (first | apply Kd.R_alloc | apply Kd.R_drewN | apply Kd.R_drew)); exact HO_5.out)⟩; have n1_ : Aside0 (wc.heap[gb112]? = some (.cells #[.int .i64 0, .int .i64 x6_1, .string (⟨#[]⟩ : ByteArray)] 33 (0, 0))) := ⟨by rw [← hq_]; exact (by (with_reducible repeat (first | refine blk_drewN ?_ _ | refine blk_drew ?_ | refine blk_alloc ?_ _)); exact BK112.out)⟩; have n2_ : Aside0 (Below w.heap.size w wc) := ⟨by rw [← hq_]; exact (by repeat (first | (with_reducible first | exact HB.out | apply below_alloc | apply pw_below_drewN | apply below_drew1 | refine below_set ?_ GE112.out) | exact HB.out))⟩; clear HO_5 BK112 HB hq_; have HO_5 := n0_; have BK112 := n1_; have HB := n2_; clear n0_ n1_ n2_)); have hcz54_0 : wc.cell? ⟨gb112, 0, none⟩ = some (.int .i64 0) := (blk_cell BK112.out 0).trans rfl; have hcz54_1 : wc.cell? ⟨gb112, 1, none⟩ = some (.int .i64 x6_1) := (blk_cell BK112.out 1).trans rfl; have hcz54_2 : wc.cell? ⟨gb112, 2, none⟩ = some (.string (⟨#[]⟩ : ByteArray)) := (blk_cell BK112.out 2).trans rfl; have hfz54_0 := blk_frozen BK112.out 0; have hfz54_1 := blk_frozen BK112.out 1; have hfz54_2 := blk_frozen BK112.out 2))
                          (try rw [Exit.noGoto_ret])
                          go_ret3
                          exact ⟨_, by first | rfl | (simp [errW_none, errW_some] <;> rfl) | (simp [*, errW_none, errW_some] <;> rfl), by first | exact Kd.R_nil _ _ _ _ _ | exact Kd.N_nil _ _ _ _ _ | exact Kd.V_nil _ _ _ _ _ | exact Kd.Q_nil _ _ _ _ _ | exact Kd.S_nil _ _ _ _ _, by repeat (first | (with_reducible first | exact HB.out | apply below_alloc | apply pw_below_drewN | apply below_drew1 | refine below_set ?_ GE112.out) | exact HB.out)⟩
                      · rw [if_neg c53] at H
                        have c53b0 : ((wrap64 (t129 + 1)) == 0) = false := beq_eq_false_iff_ne.mpr c53
                        have c53b1 : ((wrap64 (t129 + 1)) != 0) = true := bne_iff_ne.mpr c53
                        by_cases c55 : x5_1.length < 4398046511104
                        · rw [if_pos c55] at H
                          have LMc55 := Aside0.mk c55
                          clear c55
                          obtain ⟨y130, hy130⟩ : ∃ y_ : List (S33), y_ = (x5_1 ++ [(⟨wrap64 (t129 + 1), x6_1, (⟨#[]⟩ : ByteArray)⟩ : S33)]) := ⟨_, rfl⟩
                          replace H : (lexer_Split.l0 kj5 a0 y130 (wrap64 (x6_1 + 1))) = some (r1, r2, r3) := by first | (rw [hy130]; with_reducible exact H) | (have H2_ := (Option.bind_some _ _).symm.trans H; rw [hy130]; with_reducible exact H2_) | (have H2_ := (Option.bind_some _ _).symm.trans H; with_reducible exact H2_) | with_reducible exact H | (rw [hy130]; exact H) | exact H
                          have Ny130 := Aside0.mk hy130
                          clear hy130
                          as_aux_lemma =>
                            have H' := Aside0.mk H
                            clear H
                            go_wp2_with (first | ((with_reducible refine gate_callee (f := 16) rfl ?_); refine goesL_ (some 63) rfl rfl Tryd.func16 (by kernel_rfl) rfl #[.int .u8 (bt a0 x6_1)] rfl (by (try simp only [List.map_toArray, List.map_cons, List.map_nil]); first | done | rfl | (simp only [List.length_drop, List.length_take]; rfl)) ?_; (with_reducible refine (lexer_letter.calls (bt a0 x6_1) false _ A26.out).mono ?_); rintro e w' ⟨rfl, ⟨nd, rfl⟩⟩; refine ⟨_, rfl, ?_⟩; (try (rw [drewN_self wc]; generalize hq_ : World.drewN wc _ = wc; have n0_ : Aside0 (Kd.R k33 33 wc w.heap.size (fun k_ => k_ ≠ gb112) u5 x5_1) := ⟨by rw [← hq_]; exact (by (with_reducible repeat (first | apply Kd.R_alloc | apply Kd.R_drewN | apply Kd.R_drew)); exact HO_5.out)⟩; have n1_ : Aside0 (wc.heap[gb112]? = some (.cells #[.int .i64 0, .int .i64 x6_1, .string (⟨#[]⟩ : ByteArray)] 33 (0, 0))) := ⟨by rw [← hq_]; exact (by (with_reducible repeat (first | refine blk_drewN ?_ _ | refine blk_drew ?_ | refine blk_alloc ?_ _)); exact BK112.out)⟩; have n2_ : Aside0 (Below w.heap.size w wc) := ⟨by rw [← hq_]; exact (by repeat (first | (with_reducible first | exact HB.out | apply below_alloc | apply pw_below_drewN | apply below_drew1 | refine below_set ?_ GE112.out) | exact HB.out))⟩; clear HO_5 BK112 HB hq_; have HO_5 := n0_; have BK112 := n1_; have HB := n2_; clear n0_ n1_ n2_))) | ((with_reducible refine gate_callee (f := 18) rfl ?_); refine goesL_ (some 26) rfl rfl Tryd.func18 (by kernel_rfl) rfl #[.string (⟨#[40, 41, 91, 93, 94]⟩ : ByteArray), .int .u8 (bt a0 x6_1)] rfl (by (try simp only [List.map_toArray, List.map_cons, List.map_nil]); first | done | rfl | (simp only [List.length_drop, List.length_take]; rfl)) ?_; (with_reducible refine (strings_IndexByte.calls (⟨#[40, 41, 91, 93, 94]⟩ : ByteArray) (bt a0 x6_1) t129 _ A52.out).mono ?_); rintro e w' ⟨rfl, ⟨nd, rfl⟩⟩; refine ⟨_, rfl, ?_⟩; (try (rw [drewN_self wc]; generalize hq_ : World.drewN wc _ = wc; have n0_ : Aside0 (Kd.R k33 33 wc w.heap.size (fun k_ => k_ ≠ gb112) u5 x5_1) := ⟨by rw [← hq_]; exact (by (with_reducible repeat (first | apply Kd.R_alloc | apply Kd.R_drewN | apply Kd.R_drew)); exact HO_5.out)⟩; have n1_ : Aside0 (wc.heap[gb112]? = some (.cells #[.int .i64 0, .int .i64 x6_1, .string (⟨#[]⟩ : ByteArray)] 33 (0, 0))) := ⟨by rw [← hq_]; exact (by (with_reducible repeat (first | refine blk_drewN ?_ _ | refine blk_drew ?_ | refine blk_alloc ?_ _)); exact BK112.out)⟩; have n2_ : Aside0 (Below w.heap.size w wc) := ⟨by rw [← hq_]; exact (by repeat (first | (with_reducible first | exact HB.out | apply below_alloc | apply pw_below_drewN | apply below_drew1 | refine below_set ?_ GE112.out) | exact HB.out))⟩; clear HO_5 BK112 HB hq_; have HO_5 := n0_; have BK112 := n1_; have HB := n2_; clear n0_ n1_ n2_)); have hcz56_0 : wc.cell? ⟨gb112, 0, none⟩ = some (.int .i64 0) := (blk_cell BK112.out 0).trans rfl; have hcz56_1 : wc.cell? ⟨gb112, 1, none⟩ = some (.int .i64 x6_1) := (blk_cell BK112.out 1).trans rfl; have hcz56_2 : wc.cell? ⟨gb112, 2, none⟩ = some (.string (⟨#[]⟩ : ByteArray)) := (blk_cell BK112.out 2).trans rfl; have hfz56_0 := blk_frozen BK112.out 0; have hfz56_1 := blk_frozen BK112.out 1; have hfz56_2 := blk_frozen BK112.out 2) | ((with_reducible refine gate_builtin (b := .append) (xs := #[.tmp 92, .tmp 94]) rfl ?_); at_builtin; refine Kd.R_append k33 (w0 := w) w.heap.size rfl (.tmp 92) (.tmp 94) 23 33 (.agg #[(.int .i64 0), (.int .i64 0), (.string ⟨#[]⟩)]) 32 rfl Tryd.underlying23 info33 rfl (by decide) (by omega) u5 x5_1 (⟨wrap64 (t129 + 1), x6_1, (⟨#[]⟩ : ByteArray)⟩ : S33) [.int .i64 (wrap64 (t129 + 1)), .int .i64 x6_1, .string (⟨#[]⟩ : ByteArray)] (fun k_ => k_ ≠ gb112) (fun _ => False) rfl (by first | (go_simp; done) | (go_simp; rfl)) ?aP (fun _ hk => hk.elim) ?aF ?aO ?aB ?aS ?aL ?_; (case aP => exact k33_mkM _ _ _ (⟨wrap64 (t129 + 1), x6_1, (⟨#[]⟩ : ByteArray)⟩ : S33)); (case aB => exact (by repeat (first | (with_reducible first | exact HB.out | apply below_alloc | apply pw_below_drewN | apply below_drew1 | refine below_set ?_ GE112.out) | exact HB.out))); (case aF => exact (fun k_ hk => Kd.freshB (g := gb112) (o := .cells #[.int .i64 (wrap64 (t129 + 1)), .int .i64 x6_1, .string (⟨#[]⟩ : ByteArray)] 33 (0, 0)) (by (with_reducible repeat (first | refine blk_drewN ?_ _ | refine blk_drew ?_ | refine blk_alloc ?_ _)); refine blk_put (cs := #[.int .i64 0, .int .i64 x6_1, .string (⟨#[]⟩ : ByteArray)]) ?_ 0 _ rfl; (with_reducible repeat (first | refine blk_drewN ?_ _ | refine blk_drew ?_ | refine blk_alloc ?_ _)); exact BK112.out) k_ hk)); (case aO => exact (by (with_reducible repeat (first | apply Kd.R_alloc | apply Kd.R_drewN | apply Kd.R_drew)); exact Kd.R_mono (Kd.R_far (p := ⟨gb112, 0, none⟩) (Kd.R_mono HO_5.out (fun k_ hk => (⟨hk, hk⟩ : _ ∧ k_ ≠ gb112))) (fun _ hk => hk.2) (.int .i64 (wrap64 (t129 + 1)))) (fun _ hk => hk.1))); (case aS => exact (below_size (by repeat (first | (with_reducible first | exact HB.out | apply below_alloc | apply pw_below_drewN | apply below_drew1 | refine below_set ?_ GE112.out) | exact HB.out)))); (case aL => have := LMc55.out; omega); intro v131 w57 ho hb hg hat; rw [← Ny130.out] at ho; have n0_ := Aside0.mk (blk_grown (g := gb112) (o := .cells #[.int .i64 (wrap64 (t129 + 1)), .int .i64 x6_1, .string (⟨#[]⟩ : ByteArray)] 33 (0, 0)) (by (with_reducible repeat (first | refine blk_drewN ?_ _ | refine blk_drew ?_ | refine blk_alloc ?_ _)); refine blk_put (cs := #[.int .i64 0, .int .i64 x6_1, .string (⟨#[]⟩ : ByteArray)]) ?_ 0 _ rfl; (with_reducible repeat (first | refine blk_drewN ?_ _ | refine blk_drew ?_ | refine blk_alloc ?_ _)); exact BK112.out) hg (Kd.R_away HO_5.out (fun _ hk => hk))); have n1_ := Aside0.mk (hb); have n2_ := Aside0.mk (ho); clear BK112; clear HB; clear HO_5; have BK112 := n0_; have HB := n1_; have HO132 := n2_; clear n0_ n1_ n2_; clear ho hb hg hat))
                            go_roundg kj5
                            case measure => have := HK1.out; have := HJ5.out; omega
                            case rel => exact ⟨(y130), (wrap64 (x6_1 + 1)), (by first | rfl | (simp; done) | (simp [*]; done)), H', ⟨by have := HK1.out; have := HJ5.out; omega⟩, ⟨by (with_reducible repeat (first | apply Kd.R_alloc | apply Kd.R_drewN | apply Kd.R_drew)); exact Kd.R_mono HO132.out (fun _ hk => trivial)⟩, ⟨by repeat (first | (with_reducible first | exact HB.out | apply below_alloc | apply pw_below_drewN | apply below_drew1 | refine below_set ?_ GE112.out) | exact HB.out)⟩⟩
                        · rw [if_neg c55] at H
                          exact absurd H (by simp)
          · rw [if_neg c4] at H
            exact absurd H (by simp)
        · rw [if_neg c3] at H
          have c3b0 : decide (x6_1 < (a0.size : Int)) = false := decide_eq_false c3
          clear c3
          as_aux_lemma =>
            simp only [Option.some.injEq, Prod.mk.injEq] at H
            obtain ⟨rfl, rfl, rfl⟩ := H
            go_wp2
            (try rw [Exit.noGoto_ret])
            go_ret3
            exact ⟨_, by first | rfl | (simp [errW_none, errW_some] <;> rfl) | (simp [*, errW_none, errW_some] <;> rfl), by (with_reducible repeat (first | apply Kd.R_alloc | apply Kd.R_drewN | apply Kd.R_drew)); exact HO_5.out, by repeat (first | (with_reducible first | exact HB.out | apply below_alloc | apply pw_below_drewN | apply below_drew1) | exact HB.out)⟩

end Go.Proofs.YtfoijdahgkngpaaDoor.L
