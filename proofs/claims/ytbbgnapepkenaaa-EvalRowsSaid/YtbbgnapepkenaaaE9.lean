-- Written for this claim by a program of this session (over the kit's print tool): functions as Lean functions, their contracts, rows. Lean checks it.
import Derived.Test.YtbbgnapepkenaaaE0
import Derived.Test.YtbbgnapepkenaaaE2
import Derived.Test.YtbbgnapepkenaaaE4
namespace Go.Proofs.Ytbbgnapepkenaaa.E
open Go.RowKit Go.Proofs.YtbbgnapepkenaaaW.PrintWords Go.Proofs.YtbbgnapepkenaaaW.PrintLast Go.Proofs.YtbbgnapepkenaaaW.PrintMore
attribute [local go_sem] max2_int min2_int max_two min_two max_three min_three max_four min_four   -- for this text's walks alone
set_option linter.unusedVariables false
set_option linter.unusedSimpArgs false

/-! ### verbatimlaw20_EvalRows: function 11 -/
mutual
def verbatimlaw20_EvalRows.j0 : Nat → List ByteArray → List ByteArray → ByteArray → ByteArray → Bool → Bool → Option (Bool)
  | 0, _, _, _, _, _, _ => none
  | k + 1, x0, x1, x2, x3, x9, x39 => if x39 = true then (some x9) else ((eval_Find.f k x0 x2).bind fun bt236 => ((eval_Find.f k x1 x3).bind fun bt240 => ((some (([] : List ByteArray) : List ByteArray)).bind fun y244 => (if y244.length + x0.length < 8796093022208 then ((some (y244 ++ x0 : List ByteArray)).bind fun y247 => (if y247.length + x1.length < 8796093022208 then (if x2.size + x3.size ≤ 9223372036854775807 then ((eval_Find.f k (y247 ++ x1) (x2 ++ x3)).bind fun bt253 => (if bt236.2 = true then (if bt240.2 = true then (verbatimlaw20_EvalRows.j1 k x0 x2 x9 bt236.2 (!bt253.2)) else (verbatimlaw20_EvalRows.j1 k x0 x2 x9 bt236.2 false)) else (verbatimlaw20_EvalRows.j1 k x0 x2 x9 bt236.2 false))) else (none)) else (none))) else (none)))))
def verbatimlaw20_EvalRows.j1 : Nat → List ByteArray → ByteArray → Bool → Bool → Bool → Option (Bool)
  | 0, _, _, _, _, _ => none
  | k + 1, x0, x2, x9, x11, x72 => if x72 = true then (some false) else (verbatimlaw20_EvalRows.l0 k x0 x2 x9 x11 0)
def verbatimlaw20_EvalRows.l0 : Nat → List ByteArray → ByteArray → Bool → Bool → Int → Option (Bool)
  | 0, _, _, _, _, _ => none
  | k + 1, x0, x2, x9, x11, x16 => if x16 < (x0.length : Int) then (verbatimlaw20_EvalRows.j3 k x0 x2 x9 x11 x16 x11) else (verbatimlaw20_EvalRows.j3 k x0 x2 x9 x11 x16 false)
def verbatimlaw20_EvalRows.j3 : Nat → List ByteArray → ByteArray → Bool → Bool → Int → Bool → Option (Bool)
  | 0, _, _, _, _, _, _ => none
  | k + 1, x0, x2, x9, x11, x16, x79 => if x79 = true then ((some (([] : List ByteArray) : List ByteArray)).bind fun y257 => (if 0 ≤ x16 then (if x16 ≤ (x0.length : Int) then (if y257.length + (x0.take (x16 : Int).toNat).length < 8796093022208 then ((some (y257 ++ (x0.take (x16 : Int).toNat) : List ByteArray)).bind fun y261 => (if 0 ≤ (wrap64 (x16 + 1)) then (if (wrap64 (x16 + 1)) ≤ (x0.length : Int) then (if y261.length + (x0.drop ((wrap64 (x16 + 1)) : Int).toNat).length < 8796093022208 then ((eval_Find.f k (y261 ++ (x0.drop ((wrap64 (x16 + 1)) : Int).toNat)) x2).bind fun bt268 => (if bt268.2 = true then (verbatimlaw20_EvalRows.l0 k x0 x2 x9 x11 (wrap64 (x16 + 1))) else (some false))) else (none)) else (none)) else (none))) else (none)) else (none)) else (none))) else ((eval_Find.f k ([] : List ByteArray) x2).bind fun bt272 => (if x9 = true then (some bt272.2) else (some false)))
end
def verbatimlaw20_EvalRows.f (k : Nat) (l0 : List ByteArray) (l1 : List ByteArray) (a2 : ByteArray) (a3 : ByteArray) : Option (Bool) := (verbatimlaw20_head.f k).bind fun t235 => (if (l0.length : Int) > 40 then (verbatimlaw20_EvalRows.j0 k l0 l1 a2 a3 t235 true) else (if (l1.length : Int) > 40 then (verbatimlaw20_EvalRows.j0 k l0 l1 a2 a3 t235 true) else (if (a2.size : Int) > 1000 then (verbatimlaw20_EvalRows.j0 k l0 l1 a2 a3 t235 true) else (verbatimlaw20_EvalRows.j0 k l0 l1 a2 a3 t235 (decide ((a3.size : Int) > 1000))))))
theorem verbatimlaw20_EvalRows.mono_l : ∀ k, (∀ y0 y1 y2 y3 y4 y5, LeO (verbatimlaw20_EvalRows.j0 k y0 y1 y2 y3 y4 y5) (verbatimlaw20_EvalRows.j0 (k + 1) y0 y1 y2 y3 y4 y5)) ∧ (∀ y0 y1 y2 y3 y4, LeO (verbatimlaw20_EvalRows.j1 k y0 y1 y2 y3 y4) (verbatimlaw20_EvalRows.j1 (k + 1) y0 y1 y2 y3 y4)) ∧ (∀ y0 y1 y2 y3 y4, LeO (verbatimlaw20_EvalRows.l0 k y0 y1 y2 y3 y4) (verbatimlaw20_EvalRows.l0 (k + 1) y0 y1 y2 y3 y4)) ∧ (∀ y0 y1 y2 y3 y4 y5, LeO (verbatimlaw20_EvalRows.j3 k y0 y1 y2 y3 y4 y5) (verbatimlaw20_EvalRows.j3 (k + 1) y0 y1 y2 y3 y4 y5))
  | 0 => ⟨fun _ _ _ _ _ _ r h => by simp [verbatimlaw20_EvalRows.j0] at h, fun _ _ _ _ _ r h => by simp [verbatimlaw20_EvalRows.j1] at h, fun _ _ _ _ _ r h => by simp [verbatimlaw20_EvalRows.l0] at h, fun _ _ _ _ _ _ r h => by simp [verbatimlaw20_EvalRows.j3] at h⟩
  | k + 1 => by
    obtain ⟨ih0, ih1, ih2, ih3⟩ := verbatimlaw20_EvalRows.mono_l k
    refine ⟨?_, ?_, ?_, ?_⟩
    · intro y0 y1 y2 y3 y4 y5
      unfold verbatimlaw20_EvalRows.j0
      repeat' first
      | (with_reducible exact ih0 _ _ _ _ _ _)
      | (with_reducible exact ih1 _ _ _ _ _)
      | (with_reducible exact ih2 _ _ _ _ _)
      | (with_reducible exact ih3 _ _ _ _ _ _)
      | (with_reducible exact eval_Find.mono _ _ _)
      | (with_reducible exact verbatimlaw20_head.mono _)
      | (with_reducible exact LeO.refl _)
      | (with_reducible exact LeO.none _)
      | (with_reducible refine LeO.ite ?_ ?_)
      | (with_reducible refine LeO.bind ?_ (fun _ => ?_))
      | exact ih0 _ _ _ _ _ _
      | exact ih1 _ _ _ _ _
      | exact ih2 _ _ _ _ _
      | exact ih3 _ _ _ _ _ _
      | exact eval_Find.mono _ _ _
      | exact verbatimlaw20_head.mono _
      | exact LeO.none _
      | refine LeO.ite ?_ ?_
      | refine LeO.bind ?_ (fun _ => ?_)
    · intro y0 y1 y2 y3 y4
      unfold verbatimlaw20_EvalRows.j1
      repeat' first
      | (with_reducible exact ih0 _ _ _ _ _ _)
      | (with_reducible exact ih1 _ _ _ _ _)
      | (with_reducible exact ih2 _ _ _ _ _)
      | (with_reducible exact ih3 _ _ _ _ _ _)
      | (with_reducible exact eval_Find.mono _ _ _)
      | (with_reducible exact verbatimlaw20_head.mono _)
      | (with_reducible exact LeO.refl _)
      | (with_reducible exact LeO.none _)
      | (with_reducible refine LeO.ite ?_ ?_)
      | (with_reducible refine LeO.bind ?_ (fun _ => ?_))
      | exact ih0 _ _ _ _ _ _
      | exact ih1 _ _ _ _ _
      | exact ih2 _ _ _ _ _
      | exact ih3 _ _ _ _ _ _
      | exact eval_Find.mono _ _ _
      | exact verbatimlaw20_head.mono _
      | exact LeO.none _
      | refine LeO.ite ?_ ?_
      | refine LeO.bind ?_ (fun _ => ?_)
    · intro y0 y1 y2 y3 y4
      unfold verbatimlaw20_EvalRows.l0
      repeat' first
      | (with_reducible exact ih0 _ _ _ _ _ _)
      | (with_reducible exact ih1 _ _ _ _ _)
      | (with_reducible exact ih2 _ _ _ _ _)
      | (with_reducible exact ih3 _ _ _ _ _ _)
      | (with_reducible exact eval_Find.mono _ _ _)
      | (with_reducible exact verbatimlaw20_head.mono _)
      | (with_reducible exact LeO.refl _)
      | (with_reducible exact LeO.none _)
      | (with_reducible refine LeO.ite ?_ ?_)
      | (with_reducible refine LeO.bind ?_ (fun _ => ?_))
      | exact ih0 _ _ _ _ _ _
      | exact ih1 _ _ _ _ _
      | exact ih2 _ _ _ _ _
      | exact ih3 _ _ _ _ _ _
      | exact eval_Find.mono _ _ _
      | exact verbatimlaw20_head.mono _
      | exact LeO.none _
      | refine LeO.ite ?_ ?_
      | refine LeO.bind ?_ (fun _ => ?_)
    · intro y0 y1 y2 y3 y4 y5
      unfold verbatimlaw20_EvalRows.j3
      repeat' first
      | (with_reducible exact ih0 _ _ _ _ _ _)
      | (with_reducible exact ih1 _ _ _ _ _)
      | (with_reducible exact ih2 _ _ _ _ _)
      | (with_reducible exact ih3 _ _ _ _ _ _)
      | (with_reducible exact eval_Find.mono _ _ _)
      | (with_reducible exact verbatimlaw20_head.mono _)
      | (with_reducible exact LeO.refl _)
      | (with_reducible exact LeO.none _)
      | (with_reducible refine LeO.ite ?_ ?_)
      | (with_reducible refine LeO.bind ?_ (fun _ => ?_))
      | exact ih0 _ _ _ _ _ _
      | exact ih1 _ _ _ _ _
      | exact ih2 _ _ _ _ _
      | exact ih3 _ _ _ _ _ _
      | exact eval_Find.mono _ _ _
      | exact verbatimlaw20_head.mono _
      | exact LeO.none _
      | refine LeO.ite ?_ ?_
      | refine LeO.bind ?_ (fun _ => ?_)
theorem verbatimlaw20_EvalRows.mono : ∀ a0 a1 a2 a3 k, LeO (verbatimlaw20_EvalRows.f k a0 a1 a2 a3) (verbatimlaw20_EvalRows.f (k + 1) a0 a1 a2 a3) := by
  intro a0 a1 a2 a3 k
  obtain ⟨ih0, ih1, ih2, ih3⟩ := verbatimlaw20_EvalRows.mono_l k
  unfold verbatimlaw20_EvalRows.f
  repeat' first
      | (with_reducible exact ih0 _ _ _ _ _ _)
      | (with_reducible exact ih1 _ _ _ _ _)
      | (with_reducible exact ih2 _ _ _ _ _)
      | (with_reducible exact ih3 _ _ _ _ _ _)
      | (with_reducible exact eval_Find.mono _ _ _)
      | (with_reducible exact verbatimlaw20_head.mono _)
      | (with_reducible exact LeO.refl _)
      | (with_reducible exact LeO.none _)
      | (with_reducible refine LeO.ite ?_ ?_)
      | (with_reducible refine LeO.bind ?_ (fun _ => ?_))
      | exact ih0 _ _ _ _ _ _
      | exact ih1 _ _ _ _ _
      | exact ih2 _ _ _ _ _
      | exact ih3 _ _ _ _ _ _
      | exact eval_Find.mono _ _ _
      | exact verbatimlaw20_head.mono _
      | exact LeO.none _
      | refine LeO.ite ?_ ?_
      | refine LeO.bind ?_ (fun _ => ?_)
def verbatimlaw20_EvalRows.T12 : Bool × List (List Nat × List Nat) := (true, [([], []), ([], []), ([], []), ([1, 2], [1, 2]), ([0, 3], [0, 3]), ([], []), ([], []), ([6], [6]), ([5, 7], [5, 7]), ([4, 8, 4], [4, 8]), ([], []), ([9, 10, 9], [9, 10]), ([11], [11]), ([12], [12]), ([12], [12]), ([13, 11, 0, 1, 2, 3, 4, 5, 6, 7, 8, 9, 10, 11, 12, 13], [13]), ([14, 15, 0, 1, 2, 3, 4, 5, 6, 7, 8, 9, 10, 11, 12, 13, 14, 15], [14])])
def verbatimlaw20_EvalRows.B12 : List Nat := [0, 0, 0, 6, 15, 0, 0, 64, 224, 511, 0, 2047, 4095, 8191, 8191, 16383, 65535]
theorem verbatimlaw20_EvalRows.tab12 : rtab .any (opsOf Try.f11 12) = verbatimlaw20_EvalRows.T12 := by kernel_rfl
theorem verbatimlaw20_EvalRows.bits12 : waitsOk verbatimlaw20_EvalRows.T12.2 verbatimlaw20_EvalRows.B12 = true := by kernel_rfl
set_option maxHeartbeats 8000000 in
set_option maxRecDepth 100000 in
theorem verbatimlaw20_EvalRows.calls (k : Nat) (A0 : Option Addr) (c0 : Nat) (l0 : List ByteArray) (A1 : Option Addr) (c1 : Nat) (l1 : List ByteArray) (a2 : ByteArray) (a3 : ByteArray) (r : Bool) (w : World) (hG : GlobOk w) (hr0 : Kd.C Kd.string w A0 l0.length l0) (hc0 : l0.length ≤ c0) (hr1 : Kd.C Kd.string w A1 l1.length l1) (hc1 : l1.length ≤ c1) (h : verbatimlaw20_EvalRows.f k l0 l1 a2 a3 = some r) :
    Calls Try.prog 11 #[.slice A0 l0.length c0, .slice A1 l1.length c1, .string a2, .string a3] w fun e w' => e = .returned (.bool r) ∧ Below w.heap.size w w' := by
  have HG := Aside0.mk hG
  clear hG
  have HR0 := Aside0.mk hr0
  have HC0 := Aside0.mk hc0
  clear hr0 hc0
  have HR1 := Aside0.mk hr1
  have HC1 := Aside0.mk hc1
  clear hr1 hc1
  have HB := Aside0.mk (Below.refl w.heap.size w)
  have H : ((verbatimlaw20_head.f k).bind fun t235 => (if (l0.length : Int) > 40 then (verbatimlaw20_EvalRows.j0 k l0 l1 a2 a3 t235 true) else (if (l1.length : Int) > 40 then (verbatimlaw20_EvalRows.j0 k l0 l1 a2 a3 t235 true) else (if (a2.size : Int) > 1000 then (verbatimlaw20_EvalRows.j0 k l0 l1 a2 a3 t235 true) else (verbatimlaw20_EvalRows.j0 k l0 l1 a2 a3 t235 (decide ((a3.size : Int) > 1000))))))) = some r := h
  clear h
  replace H := Option.bind_eq_some_iff.mp H
  obtain ⟨t235, A50, H⟩ := H
  replace H : (if (l0.length : Int) > 40 then (verbatimlaw20_EvalRows.j0 k l0 l1 a2 a3 t235 true) else (if (l1.length : Int) > 40 then (verbatimlaw20_EvalRows.j0 k l0 l1 a2 a3 t235 true) else (if (a2.size : Int) > 1000 then (verbatimlaw20_EvalRows.j0 k l0 l1 a2 a3 t235 true) else (verbatimlaw20_EvalRows.j0 k l0 l1 a2 a3 t235 (decide ((a3.size : Int) > 1000)))))) = some r := H
  have A5 := Aside0.mk A50
  clear A50
  have HC6 := Aside0.mk H
  clear H
  go_enter Try.func11, Try.ntmps11
  go_upto_region 2 with (first | ((with_reducible refine gate_callee (f := 21) rfl ?_); refine goesL_ (some 21) rfl rfl Try.func21 (by kernel_rfl) rfl #[] rfl (by (try simp only [List.map_toArray, List.map_cons, List.map_nil]); first | done | rfl | (simp only [List.length_drop, List.length_take]; rfl)) ?_; (with_reducible refine (verbatimlaw20_head.calls k  t235 _ ?side1 A5.out).mono ?_); (case side1 => first | exact GlobOk.below HG.out (by repeat (first | (with_reducible first | exact HB.out | apply below_alloc | apply pw_below_drewN | apply below_drew1) | exact HB.out)) | (repeat (first | exact HG.out | (with_reducible refine GlobOk.alloc ?_ _) | (with_reducible refine GlobOk.drewN ?_ _) | (with_reducible refine GlobOk.drew ?_)))); rintro e w7 ⟨rfl, hb⟩; refine ⟨_, rfl, ?_⟩; have n0_ := Aside0.mk (below_step (by repeat (first | (with_reducible first | exact HB.out | apply below_alloc | apply pw_below_drewN | apply below_drew1) | exact HB.out)) hb); clear HB; have HB := n0_; clear n0_; (try clear hb); (try clear hb2); (try clear hk); (try clear hi)))
  (try simp only [Act.put, List.setIfInBounds_toArray, List.set_cons_zero, List.set_cons_succ])
  go_cut [39] (fun v39 wc => ∃ (kq : Nat) (x39_5 : Bool), v39 = .bool x39_5 ∧ Aside0 (verbatimlaw20_EvalRows.j0 kq l0 l1 a2 a3 t235 x39_5 = some r) ∧ Aside0 (kq ≤ k) ∧ Aside0 (Below w.heap.size w wc))
  case first =>
    have H := HC6.out
    clear HC6
    by_cases c8 : (l0.length : Int) > 40
    · rw [if_pos c8] at H
      have c8b0 : decide (40 < (l0.length : Int)) = true := decide_eq_true c8
      have c8b1 : decide (40 < l0.length) = true := decide_eq_true (by omega)
      clear c8
      (first | rw [c8b0] | (simp only [i64_w, i32_w]; rw [c8b0]) | skip)
      have H' := Aside0.mk H
      clear H
      go_wp2
      go_meet
      case rel => exact ⟨_, (true), (by first | rfl | (simp; done) | (simp [*]; done)), H', ⟨by first | omega | exact Nat.le_refl _⟩, ⟨by repeat (first | (with_reducible first | exact HB.out | apply below_alloc | apply pw_below_drewN | apply below_drew1) | exact HB.out)⟩⟩
    · rw [if_neg c8] at H
      have c8b0 : decide (40 < (l0.length : Int)) = false := decide_eq_false c8
      have c8b1 : decide (40 < l0.length) = false := decide_eq_false (by omega)
      clear c8
      (first | rw [c8b0] | (simp only [i64_w, i32_w]; rw [c8b0]) | skip)
      by_cases c9 : (l1.length : Int) > 40
      · rw [if_pos c9] at H
        have c9b0 : decide (40 < (l1.length : Int)) = true := decide_eq_true c9
        have c9b1 : decide (40 < l1.length) = true := decide_eq_true (by omega)
        clear c9
        have H' := Aside0.mk H
        clear H
        go_wp2
        go_meet
        case rel => exact ⟨_, (true), (by first | rfl | (simp; done) | (simp [*]; done)), H', ⟨by first | omega | exact Nat.le_refl _⟩, ⟨by repeat (first | (with_reducible first | exact HB.out | apply below_alloc | apply pw_below_drewN | apply below_drew1) | exact HB.out)⟩⟩
      · rw [if_neg c9] at H
        have c9b0 : decide (40 < (l1.length : Int)) = false := decide_eq_false c9
        have c9b1 : decide (40 < l1.length) = false := decide_eq_false (by omega)
        clear c9
        by_cases c10 : (a2.size : Int) > 1000
        · rw [if_pos c10] at H
          have c10b0 : decide (1000 < (a2.size : Int)) = true := decide_eq_true c10
          have c10b1 : decide (1000 < a2.size) = true := decide_eq_true (by omega)
          clear c10
          have H' := Aside0.mk H
          clear H
          go_wp2
          go_meet
          case rel => exact ⟨_, (true), (by first | rfl | (simp; done) | (simp [*]; done)), H', ⟨by first | omega | exact Nat.le_refl _⟩, ⟨by repeat (first | (with_reducible first | exact HB.out | apply below_alloc | apply pw_below_drewN | apply below_drew1) | exact HB.out)⟩⟩
        · rw [if_neg c10] at H
          have c10b0 : decide (1000 < (a2.size : Int)) = false := decide_eq_false c10
          have c10b1 : decide (1000 < a2.size) = false := decide_eq_false (by omega)
          clear c10
          have H' := Aside0.mk H
          clear H
          go_wp2
          go_meet
          case rel => exact ⟨_, (decide ((a3.size : Int) > 1000)), (by first | rfl | (simp; done) | (simp [*]; done)), H', ⟨by first | omega | exact Nat.le_refl _⟩, ⟨by repeat (first | (with_reducible first | exact HB.out | apply below_alloc | apply pw_below_drewN | apply below_drew1) | exact HB.out)⟩⟩
  case rest =>
    clear HC6
    try clear c1
    try clear c2
    try clear p2
    try clear c8
    try clear c8b0
    try clear c8b1
    try clear c9
    try clear c9b0
    try clear c9b1
    try clear c10
    try clear c10b0
    try clear c10b1
    obtain ⟨kq, x39_5, rfl, HA, HJ5, HB⟩ := hcut
    cases kq with
    | zero => exact absurd HA.out (by simp [verbatimlaw20_EvalRows.j0])
    | succ kj5 =>
      have H := HA.out
      clear HA
      simp only [verbatimlaw20_EvalRows.j0] at H
      by_cases c11 : x39_5 = true
      · subst c11
        have H1 : (some t235) = some r := by rw [if_pos rfl] at H; exact H
        clear H
        have H := H1
        clear H1
        obtain rfl := Option.some.inj H
        go_wp2
        go_ret
        exact ⟨by first | rfl | (simp [errW_none, errW_some] <;> rfl) | (simp [*, errW_none, errW_some] <;> rfl), by repeat (first | (with_reducible first | exact HB.out | apply below_alloc | apply pw_below_drewN | apply below_drew1) | exact HB.out)⟩
      · replace c11 := Bool.eq_false_iff.mpr c11
        subst c11
        have H1 : ((eval_Find.f kj5 l0 a2).bind fun bt236 => ((eval_Find.f kj5 l1 a3).bind fun bt240 => ((some (([] : List ByteArray) : List ByteArray)).bind fun y244 => (if y244.length + l0.length < 8796093022208 then ((some (y244 ++ l0 : List ByteArray)).bind fun y247 => (if y247.length + l1.length < 8796093022208 then (if a2.size + a3.size ≤ 9223372036854775807 then ((eval_Find.f kj5 (y247 ++ l1) (a2 ++ a3)).bind fun bt253 => (if bt236.2 = true then (if bt240.2 = true then (verbatimlaw20_EvalRows.j1 kj5 l0 a2 t235 bt236.2 (!bt253.2)) else (verbatimlaw20_EvalRows.j1 kj5 l0 a2 t235 bt236.2 false)) else (verbatimlaw20_EvalRows.j1 kj5 l0 a2 t235 bt236.2 false))) else (none)) else (none))) else (none))))) = some r := by rw [if_neg (show ¬ (false = true) by decide)] at H; exact H
        clear H
        have H := H1
        clear H1
        replace H := Option.bind_eq_some_iff.mp H
        obtain ⟨⟨t236, t237⟩, A120, H⟩ := H
        replace H : ((eval_Find.f kj5 l1 a3).bind fun bt240 => ((some (([] : List ByteArray) : List ByteArray)).bind fun y244 => (if y244.length + l0.length < 8796093022208 then ((some (y244 ++ l0 : List ByteArray)).bind fun y247 => (if y247.length + l1.length < 8796093022208 then (if a2.size + a3.size ≤ 9223372036854775807 then ((eval_Find.f kj5 (y247 ++ l1) (a2 ++ a3)).bind fun bt253 => (if t237 = true then (if bt240.2 = true then (verbatimlaw20_EvalRows.j1 kj5 l0 a2 t235 t237 (!bt253.2)) else (verbatimlaw20_EvalRows.j1 kj5 l0 a2 t235 t237 false)) else (verbatimlaw20_EvalRows.j1 kj5 l0 a2 t235 t237 false))) else (none)) else (none))) else (none)))) = some r := H
        have A12 := Aside0.mk A120
        clear A120
        replace H := Option.bind_eq_some_iff.mp H
        obtain ⟨⟨t240, t241⟩, A130, H⟩ := H
        replace H : ((some (([] : List ByteArray) : List ByteArray)).bind fun y244 => (if y244.length + l0.length < 8796093022208 then ((some (y244 ++ l0 : List ByteArray)).bind fun y247 => (if y247.length + l1.length < 8796093022208 then (if a2.size + a3.size ≤ 9223372036854775807 then ((eval_Find.f kj5 (y247 ++ l1) (a2 ++ a3)).bind fun bt253 => (if t237 = true then (if t241 = true then (verbatimlaw20_EvalRows.j1 kj5 l0 a2 t235 t237 (!bt253.2)) else (verbatimlaw20_EvalRows.j1 kj5 l0 a2 t235 t237 false)) else (verbatimlaw20_EvalRows.j1 kj5 l0 a2 t235 t237 false))) else (none)) else (none))) else (none))) = some r := H
        have A13 := Aside0.mk A130
        clear A130
        obtain ⟨y244, hy244⟩ : ∃ y_ : List ByteArray, y_ = (([] : List ByteArray)) := ⟨_, rfl⟩
        replace H : (if y244.length + l0.length < 8796093022208 then ((some (y244 ++ l0 : List ByteArray)).bind fun y247 => (if y247.length + l1.length < 8796093022208 then (if a2.size + a3.size ≤ 9223372036854775807 then ((eval_Find.f kj5 (y247 ++ l1) (a2 ++ a3)).bind fun bt253 => (if t237 = true then (if t241 = true then (verbatimlaw20_EvalRows.j1 kj5 l0 a2 t235 t237 (!bt253.2)) else (verbatimlaw20_EvalRows.j1 kj5 l0 a2 t235 t237 false)) else (verbatimlaw20_EvalRows.j1 kj5 l0 a2 t235 t237 false))) else (none)) else (none))) else (none)) = some r := by first | (rw [hy244]; with_reducible exact H) | (have H2_ := (Option.bind_some _ _).symm.trans H; rw [hy244]; with_reducible exact H2_) | (have H2_ := (Option.bind_some _ _).symm.trans H; with_reducible exact H2_) | with_reducible exact H | (rw [hy244]; exact H) | exact H
        have Ny244 := Aside0.mk hy244
        clear hy244
        by_cases c14 : y244.length + l0.length < 8796093022208
        · rw [if_pos c14] at H
          have LMc14 := Aside0.mk c14
          clear c14
          obtain ⟨y247, hy247⟩ : ∃ y_ : List ByteArray, y_ = (y244 ++ l0) := ⟨_, rfl⟩
          replace H : (if y247.length + l1.length < 8796093022208 then (if a2.size + a3.size ≤ 9223372036854775807 then ((eval_Find.f kj5 (y247 ++ l1) (a2 ++ a3)).bind fun bt253 => (if t237 = true then (if t241 = true then (verbatimlaw20_EvalRows.j1 kj5 l0 a2 t235 t237 (!bt253.2)) else (verbatimlaw20_EvalRows.j1 kj5 l0 a2 t235 t237 false)) else (verbatimlaw20_EvalRows.j1 kj5 l0 a2 t235 t237 false))) else (none)) else (none)) = some r := by first | (rw [hy247]; with_reducible exact H) | (have H2_ := (Option.bind_some _ _).symm.trans H; rw [hy247]; with_reducible exact H2_) | (have H2_ := (Option.bind_some _ _).symm.trans H; with_reducible exact H2_) | with_reducible exact H | (rw [hy247]; exact H) | exact H
          have Ny247 := Aside0.mk hy247
          clear hy247
          by_cases c15 : y247.length + l1.length < 8796093022208
          · rw [if_pos c15] at H
            have LMc15 := Aside0.mk c15
            clear c15
            obtain ⟨y250, hy250⟩ : ∃ y_ : List ByteArray, y_ = (y247 ++ l1) := ⟨_, rfl⟩
            replace H : (if a2.size + a3.size ≤ 9223372036854775807 then ((eval_Find.f kj5 y250 (a2 ++ a3)).bind fun bt253 => (if t237 = true then (if t241 = true then (verbatimlaw20_EvalRows.j1 kj5 l0 a2 t235 t237 (!bt253.2)) else (verbatimlaw20_EvalRows.j1 kj5 l0 a2 t235 t237 false)) else (verbatimlaw20_EvalRows.j1 kj5 l0 a2 t235 t237 false))) else (none)) = some r := by first | (rw [hy250]; with_reducible exact H) | (have H2_ := (Option.bind_some _ _).symm.trans H; rw [hy250]; with_reducible exact H2_) | (have H2_ := (Option.bind_some _ _).symm.trans H; with_reducible exact H2_) | with_reducible exact H | (rw [hy250]; exact H) | exact H
            have Ny250 := Aside0.mk hy250
            clear hy250
            by_cases c16 : a2.size + a3.size ≤ 9223372036854775807
            · rw [if_pos c16] at H
              have c16b0 := eq_true c16
              have c16b1 : decide (a2.size + a3.size ≤ 9223372036854775807) = true := decide_eq_true c16
              try have c16b2 : (9223372036854775807 < a2.size + a3.size) = False := eq_false (Nat.not_lt.2 c16)
              replace H := Option.bind_eq_some_iff.mp H
              obtain ⟨⟨t253, t254⟩, A170, H⟩ := H
              replace H : (if t237 = true then (if t241 = true then (verbatimlaw20_EvalRows.j1 kj5 l0 a2 t235 t237 (!t254)) else (verbatimlaw20_EvalRows.j1 kj5 l0 a2 t235 t237 false)) else (verbatimlaw20_EvalRows.j1 kj5 l0 a2 t235 t237 false)) = some r := H
              have A17 := Aside0.mk A170
              clear A170
              have HC18 := Aside0.mk H
              clear H
              go_upto_region 7 with (first | ((with_reducible refine gate_callee (f := 23) rfl ?_); refine goesL_ (some 44) rfl rfl Try.func23 (by kernel_rfl) rfl #[.slice A0 l0.length c0, .string a2] rfl (by (try simp only [List.map_toArray, List.map_cons, List.map_nil]); first | done | rfl | (simp only [List.length_drop, List.length_take]; rfl)) ?_; (with_reducible refine (eval_Find.calls kj5 _ _ l0 a2 t236 t237 _ ?side1 ?side2 ?side3 A12.out).mono ?_); (case side1 => first | exact GlobOk.below HG.out (by repeat (first | (with_reducible first | exact HB.out | apply below_alloc | apply pw_below_drewN | apply below_drew1) | exact HB.out)) | (repeat (first | exact HG.out | (with_reducible refine GlobOk.alloc ?_ _) | (with_reducible refine GlobOk.drewN ?_ _) | (with_reducible refine GlobOk.drew ?_)))); (case side2 => repeat (first | exact (Kd.C_below HR0.out HB.out) | (with_reducible refine Kd.C_alloc ?_ _) | (with_reducible refine Kd.C_drewN ?_ _) | (with_reducible refine Kd.C_drew ?_))); (case side3 => exact HC0.out); rintro e w19 ⟨v238, rfl, ho0, hb⟩; refine ⟨_, rfl, ?_⟩; have n0_ := Aside0.mk (Kd.R_lower ho0 (below_size (by repeat (first | (with_reducible first | exact HB.out | apply below_alloc | apply pw_below_drewN | apply below_drew1) | exact HB.out)))); have n1_ := Aside0.mk (below_step (by repeat (first | (with_reducible first | exact HB.out | apply below_alloc | apply pw_below_drewN | apply below_drew1) | exact HB.out)) hb); clear HB; have HO239 := n0_; have HB := n1_; clear n0_ n1_; (try clear hb); (try clear hb2); (try clear hk); (try clear hi); (try clear ho0)) | ((with_reducible refine gate_callee (f := 23) rfl ?_); refine goesL_ (some 50) rfl rfl Try.func23 (by kernel_rfl) rfl #[.slice A1 l1.length c1, .string a3] rfl (by (try simp only [List.map_toArray, List.map_cons, List.map_nil]); first | done | rfl | (simp only [List.length_drop, List.length_take]; rfl)) ?_; (with_reducible refine (eval_Find.calls kj5 _ _ l1 a3 t240 t241 _ ?side1 ?side2 ?side3 A13.out).mono ?_); (case side1 => first | exact GlobOk.below HG.out (by repeat (first | (with_reducible first | exact HB.out | apply below_alloc | apply pw_below_drewN | apply below_drew1) | exact HB.out)) | (repeat (first | exact HG.out | (with_reducible refine GlobOk.alloc ?_ _) | (with_reducible refine GlobOk.drewN ?_ _) | (with_reducible refine GlobOk.drew ?_)))); (case side2 => repeat (first | exact (Kd.C_below HR1.out HB.out) | (with_reducible refine Kd.C_alloc ?_ _) | (with_reducible refine Kd.C_drewN ?_ _) | (with_reducible refine Kd.C_drew ?_))); (case side3 => exact HC1.out); rintro e w20 ⟨v242, rfl, ho0, hb⟩; refine ⟨_, rfl, ?_⟩; have n0_ := Aside0.mk (Kd.R_elder' (by (with_reducible repeat (first | apply Kd.R_alloc | apply Kd.R_drewN | apply Kd.R_drew)); exact HO239.out) (Kd.R_base ho0) hb); have n1_ := Aside0.mk (Kd.R_lower (Kd.R_new' ho0 (Kd.R_lt (by (with_reducible repeat (first | apply Kd.R_alloc | apply Kd.R_drewN | apply Kd.R_drew)); exact HO239.out))) (below_size (by repeat (first | (with_reducible first | exact HB.out | apply below_alloc | apply pw_below_drewN | apply below_drew1) | exact HB.out)))); have n2_ := Aside0.mk (below_step (by repeat (first | (with_reducible first | exact HB.out | apply below_alloc | apply pw_below_drewN | apply below_drew1) | exact HB.out)) hb); clear HO239; clear HB; have HO239 := n0_; have HO243 := n1_; have HB := n2_; clear n0_ n1_ n2_; (try clear hb); (try clear hb2); (try clear hk); (try clear hi); (try clear ho0)) | ((with_reducible refine gate_dst (N := 54) rfl ?_); (try (refine gate_guard (by rfl) ?_; dsimp only)); refine Kd.R_lit Kd.string _ 9 ?hg (N := 54) ?hd (xs := ([] : List ByteArray)) (inner := []) (ok := fun _ => True) (okp := fun _ => True) ?hr ?hp (fun _ hk => hk) trivial (Below.refl _ _) (Nat.le_refl _) (by simp) ?_; (case hd => rfl); (case hg => rfl); (case hr => first | (go_simp; done) | (go_simp; rfl)); (case hp => exact (Reps.none _ _)); intro v245 w21 ho22 hb hg_ hnew_; clear hg_ hnew_; (first | rw [← Ny244.out] at ho22 | (simp only [Int.reduceToNat] at ho22; rw [← Ny244.out] at ho22)); have n0_ := Aside0.mk (Kd.R_below (by (with_reducible repeat (first | apply Kd.R_alloc | apply Kd.R_drewN | apply Kd.R_drew)); exact HO239.out) hb); have n1_ := Aside0.mk (Kd.R_below (by (with_reducible repeat (first | apply Kd.R_alloc | apply Kd.R_drewN | apply Kd.R_drew)); exact HO243.out) hb); have n2_ := Aside0.mk (Kd.R_lower ho22 (below_size (by repeat (first | (with_reducible first | exact HB.out | apply below_alloc | apply pw_below_drewN | apply below_drew1) | exact HB.out)))); have n3_ := Aside0.mk (below_step (by repeat (first | (with_reducible first | exact HB.out | apply below_alloc | apply pw_below_drewN | apply below_drew1) | exact HB.out)) hb); clear HO239; clear HO243; clear HB; have HO239 := n0_; have HO243 := n1_; have HO246 := n2_; have HB := n3_; clear n0_ n1_ n2_ n3_; clear hb ho22) | ((with_reducible refine gate_builtin (b := .append) (xs := #[.tmp 54, .tmp 55]) rfl ?_); (try (refine gate_guard (by rfl) ?_; dsimp only)); at_builtin; refine Kd.R_append_rows Kd.string (w0 := w) w.heap.size rfl (.tmp 54) (.tmp 55) 37 9 (.string ⟨#[]⟩) 16 rfl Try.underlying37 info9 rfl (by decide) (by omega) v245 y244 l0 _ _ _ (fun _ => True) (fun _ => False) rfl rfl ?aO ?aR (fun _ _ h => h) (fun _ h => h.elim) ?aF ?aB ?aS ?aL ?_; (case aR => repeat (first | exact (Kd.C_below HR0.out HB.out) | (with_reducible refine Kd.C_alloc ?_ _) | (with_reducible refine Kd.C_drewN ?_ _) | (with_reducible refine Kd.C_drew ?_))); (case aB => exact (by repeat (first | (with_reducible first | exact HB.out | apply below_alloc | apply pw_below_drewN | apply below_drew1) | exact HB.out))); (case aF => exact (fun _ _ => trivial)); (case aO => exact (by (with_reducible repeat (first | apply Kd.R_alloc | apply Kd.R_drewN | apply Kd.R_drew)); exact HO246.out)); (case aS => exact (below_size (by repeat (first | (with_reducible first | exact HB.out | apply below_alloc | apply pw_below_drewN | apply below_drew1) | exact HB.out)))); (case aL => have := LMc14.out; omega); intro v248 w23 ho hb hg hat; rw [← Ny247.out] at ho; have n0_ := Aside0.mk (Kd.R_over' (by (with_reducible repeat (first | apply Kd.R_alloc | apply Kd.R_drewN | apply Kd.R_drew)); exact HO239.out) (Kd.R_typed (by (with_reducible repeat (first | apply Kd.R_alloc | apply Kd.R_drewN | apply Kd.R_drew)); exact HO246.out)) (by decide) hg); have n1_ := Aside0.mk (Kd.R_over' (by (with_reducible repeat (first | apply Kd.R_alloc | apply Kd.R_drewN | apply Kd.R_drew)); exact HO243.out) (Kd.R_typed (by (with_reducible repeat (first | apply Kd.R_alloc | apply Kd.R_drewN | apply Kd.R_drew)); exact HO246.out)) (by decide) hg); have n2_ := Aside0.mk (hb); have n3_ := Aside0.mk (ho); clear HO239; clear HO243; clear HB; clear HO246; have HO239 := n0_; have HO243 := n1_; have HB := n2_; have HO249 := n3_; clear n0_ n1_ n2_ n3_; clear ho hb hg hat) | ((with_reducible refine gate_builtin (b := .append) (xs := #[.tmp 56, .tmp 57]) rfl ?_); (try (refine gate_guard (by rfl) ?_; dsimp only)); at_builtin; refine Kd.R_append_rows Kd.string (w0 := w) w.heap.size rfl (.tmp 56) (.tmp 57) 37 9 (.string ⟨#[]⟩) 16 rfl Try.underlying37 info9 rfl (by decide) (by omega) v248 y247 l1 _ _ _ (fun _ => True) (fun _ => False) rfl rfl ?aO ?aR (fun _ _ h => h) (fun _ h => h.elim) ?aF ?aB ?aS ?aL ?_; (case aR => repeat (first | exact (Kd.C_below HR1.out HB.out) | (with_reducible refine Kd.C_alloc ?_ _) | (with_reducible refine Kd.C_drewN ?_ _) | (with_reducible refine Kd.C_drew ?_))); (case aB => exact (by repeat (first | (with_reducible first | exact HB.out | apply below_alloc | apply pw_below_drewN | apply below_drew1) | exact HB.out))); (case aF => exact (fun _ _ => trivial)); (case aO => exact (by (with_reducible repeat (first | apply Kd.R_alloc | apply Kd.R_drewN | apply Kd.R_drew)); exact HO249.out)); (case aS => exact (below_size (by repeat (first | (with_reducible first | exact HB.out | apply below_alloc | apply pw_below_drewN | apply below_drew1) | exact HB.out)))); (case aL => have := LMc15.out; omega); intro v251 w24 ho hb hg hat; rw [← Ny250.out] at ho; have n0_ := Aside0.mk (Kd.R_over' (by (with_reducible repeat (first | apply Kd.R_alloc | apply Kd.R_drewN | apply Kd.R_drew)); exact HO239.out) (Kd.R_typed (by (with_reducible repeat (first | apply Kd.R_alloc | apply Kd.R_drewN | apply Kd.R_drew)); exact HO249.out)) (by decide) hg); have n1_ := Aside0.mk (Kd.R_over' (by (with_reducible repeat (first | apply Kd.R_alloc | apply Kd.R_drewN | apply Kd.R_drew)); exact HO243.out) (Kd.R_typed (by (with_reducible repeat (first | apply Kd.R_alloc | apply Kd.R_drewN | apply Kd.R_drew)); exact HO249.out)) (by decide) hg); have n2_ := Aside0.mk (hb); have n3_ := Aside0.mk (ho); clear HO239; clear HO243; clear HB; clear HO249; have HO239 := n0_; have HO243 := n1_; have HB := n2_; have HO252 := n3_; clear n0_ n1_ n2_ n3_; clear ho hb hg hat; obtain ⟨Ao25, co25, eo25⟩ := Kd.R_slice HO252.out; subst eo25) | ((with_reducible refine gate_callee (f := 23) rfl ?_); refine goesL_ (some 62) rfl rfl Try.func23 (by kernel_rfl) rfl #[.slice Ao25 y250.length co25, .string (a2 ++ a3)] rfl (by (try simp only [List.map_toArray, List.map_cons, List.map_nil]); first | done | rfl | (simp only [List.length_drop, List.length_take]; rfl)) ?_; (with_reducible refine (eval_Find.calls kj5 _ _ y250 (a2 ++ a3) t253 t254 _ ?side1 ?side2 ?side3 A17.out).mono ?_); (case side1 => first | exact GlobOk.below HG.out (by repeat (first | (with_reducible first | exact HB.out | apply below_alloc | apply pw_below_drewN | apply below_drew1) | exact HB.out)) | (repeat (first | exact HG.out | (with_reducible refine GlobOk.alloc ?_ _) | (with_reducible refine GlobOk.drewN ?_ _) | (with_reducible refine GlobOk.drew ?_)))); (case side2 => repeat (first | exact (Kd.R_reads' HO252.out).2.2 | (with_reducible refine Kd.C_alloc ?_ _) | (with_reducible refine Kd.C_drewN ?_ _) | (with_reducible refine Kd.C_drew ?_))); (case side3 => exact (Kd.R_reads' HO252.out).2.1); rintro e w26 ⟨v255, rfl, ho0, hb⟩; refine ⟨_, rfl, ?_⟩; have n0_ := Aside0.mk (Kd.R_elder' (by (with_reducible repeat (first | apply Kd.R_alloc | apply Kd.R_drewN | apply Kd.R_drew)); exact HO239.out) (Kd.R_base ho0) hb); have n1_ := Aside0.mk (Kd.R_elder' (by (with_reducible repeat (first | apply Kd.R_alloc | apply Kd.R_drewN | apply Kd.R_drew)); exact HO243.out) (Kd.R_base ho0) hb); have n2_ := Aside0.mk (Kd.R_below (by (with_reducible repeat (first | apply Kd.R_alloc | apply Kd.R_drewN | apply Kd.R_drew)); exact HO252.out) hb); have n3_ := Aside0.mk (Kd.R_lower (Kd.R_new' (Kd.R_new' ho0 (Kd.R_lt (by (with_reducible repeat (first | apply Kd.R_alloc | apply Kd.R_drewN | apply Kd.R_drew)); exact HO239.out))) (Kd.R_lt (by (with_reducible repeat (first | apply Kd.R_alloc | apply Kd.R_drewN | apply Kd.R_drew)); exact HO243.out))) (below_size (by repeat (first | (with_reducible first | exact HB.out | apply below_alloc | apply pw_below_drewN | apply below_drew1) | exact HB.out)))); have n4_ := Aside0.mk (below_step (by repeat (first | (with_reducible first | exact HB.out | apply below_alloc | apply pw_below_drewN | apply below_drew1) | exact HB.out)) hb); clear HO239; clear HO243; clear HO252; clear HB; have HO239 := n0_; have HO243 := n1_; have HO252 := n2_; have HO256 := n3_; have HB := n4_; clear n0_ n1_ n2_ n3_ n4_; (try clear hb); (try clear hb2); (try clear hk); (try clear hi); (try clear ho0)))
              (try simp only [Act.put, List.setIfInBounds_toArray, List.set_cons_zero, List.set_cons_succ])
              go_cut [72] (fun v72 wc => ∃ (kq : Nat) (x72_17 : Bool), v72 = .bool x72_17 ∧ Aside0 (verbatimlaw20_EvalRows.j1 kq l0 a2 t235 t237 x72_17 = some r) ∧ Aside0 (kq ≤ kj5) ∧ Aside0 (Below w.heap.size w wc))
              case first =>
                have H := HC18.out
                clear HC18
                by_cases c27 : t237 = true
                · subst c27
                  have H1 : (if t241 = true then (verbatimlaw20_EvalRows.j1 kj5 l0 a2 t235 true (!t254)) else (verbatimlaw20_EvalRows.j1 kj5 l0 a2 t235 true false)) = some r := by rw [if_pos rfl] at H; exact H
                  clear H
                  have H := H1
                  clear H1
                  by_cases c28 : t241 = true
                  · subst c28
                    have H1 : (verbatimlaw20_EvalRows.j1 kj5 l0 a2 t235 true (!t254)) = some r := by rw [if_pos rfl] at H; exact H
                    clear H
                    have H := H1
                    clear H1
                    have H' := Aside0.mk H
                    clear H
                    go_wp2
                    go_meet
                    case rel => exact ⟨_, (!t254), (by first | rfl | (simp; done) | (simp [*]; done)), H', ⟨by have := HJ5.out; first | omega | exact Nat.le_refl _⟩, ⟨by repeat (first | (with_reducible first | exact HB.out | apply below_alloc | apply pw_below_drewN | apply below_drew1) | exact HB.out)⟩⟩
                  · replace c28 := Bool.eq_false_iff.mpr c28
                    subst c28
                    have H1 : (verbatimlaw20_EvalRows.j1 kj5 l0 a2 t235 true false) = some r := by rw [if_neg (show ¬ (false = true) by decide)] at H; exact H
                    clear H
                    have H := H1
                    clear H1
                    have H' := Aside0.mk H
                    clear H
                    go_wp2
                    go_meet
                    case rel => exact ⟨_, (false), (by first | rfl | (simp; done) | (simp [*]; done)), H', ⟨by have := HJ5.out; first | omega | exact Nat.le_refl _⟩, ⟨by repeat (first | (with_reducible first | exact HB.out | apply below_alloc | apply pw_below_drewN | apply below_drew1) | exact HB.out)⟩⟩
                · replace c27 := Bool.eq_false_iff.mpr c27
                  subst c27
                  have H1 : (verbatimlaw20_EvalRows.j1 kj5 l0 a2 t235 false false) = some r := by rw [if_neg (show ¬ (false = true) by decide)] at H; exact H
                  clear H
                  have H := H1
                  clear H1
                  have H' := Aside0.mk H
                  clear H
                  go_wp2
                  go_meet
                  case rel => exact ⟨_, (false), (by first | rfl | (simp; done) | (simp [*]; done)), H', ⟨by have := HJ5.out; first | omega | exact Nat.le_refl _⟩, ⟨by repeat (first | (with_reducible first | exact HB.out | apply below_alloc | apply pw_below_drewN | apply below_drew1) | exact HB.out)⟩⟩
              case rest =>
                clear HC18
                try clear c1
                try clear c2
                try clear p2
                try clear c8
                try clear c8b0
                try clear c8b1
                try clear c9
                try clear c9b0
                try clear c9b1
                try clear c10
                try clear c10b0
                try clear c10b1
                try clear c11
                try clear c14
                try clear c15
                try clear c16
                try clear c16b0
                try clear c16b1
                try clear c16b2
                try clear c21
                try clear c23
                try clear c27
                try clear c28
                try clear p2
                obtain ⟨kq, x72_17, rfl, HA, HJ17, HB⟩ := hcut
                cases kq with
                | zero => exact absurd HA.out (by simp [verbatimlaw20_EvalRows.j1])
                | succ kj17 =>
                  have H := HA.out
                  clear HA
                  simp only [verbatimlaw20_EvalRows.j1] at H
                  by_cases c29 : x72_17 = true
                  · subst c29
                    have H1 : (some false) = some r := by rw [if_pos rfl] at H; exact H
                    clear H
                    have H := H1
                    clear H1
                    obtain rfl := Option.some.inj H
                    go_wp2
                    go_ret
                    exact ⟨by first | rfl | (simp [errW_none, errW_some] <;> rfl) | (simp [*, errW_none, errW_some] <;> rfl), by repeat (first | (with_reducible first | exact HB.out | apply below_alloc | apply pw_below_drewN | apply below_drew1) | exact HB.out)⟩
                  · replace c29 := Bool.eq_false_iff.mpr c29
                    subst c29
                    have H1 : (verbatimlaw20_EvalRows.l0 kj17 l0 a2 t235 t237 0) = some r := by rw [if_neg (show ¬ (false = true) by decide)] at H; exact H
                    clear H
                    have H := H1
                    clear H1
                    have H' := Aside0.mk H
                    clear H
                    go_wp2
                    go_loopg [16] kj17 (fun kq v16 w' => ∃ (x16_3 : Int), v16 = .int .i64 x16_3 ∧ Aside0 (verbatimlaw20_EvalRows.l0 kq l0 a2 t235 t237 x16_3 = some r) ∧ Aside0 (kq ≤ kj17) ∧ Aside0 (Below w.heap.size w w'))
                    case atStart => exact ⟨(0), (by first | rfl | (simp; done) | (simp [*]; done)), H', ⟨Nat.le_refl _⟩, ⟨by repeat (first | (with_reducible first | exact HB.out | apply below_alloc | apply pw_below_drewN | apply below_drew1) | exact HB.out)⟩⟩
                    case round =>
                      clear H'
                      try clear c1
                      try clear c2
                      try clear p2
                      try clear c8
                      try clear c8b0
                      try clear c8b1
                      try clear c9
                      try clear c9b0
                      try clear c9b1
                      try clear c10
                      try clear c10b0
                      try clear c10b1
                      try clear c11
                      try clear c14
                      try clear c15
                      try clear c16
                      try clear c16b0
                      try clear c16b1
                      try clear c16b2
                      try clear c21
                      try clear c23
                      try clear c27
                      try clear c28
                      try clear c29
                      try clear p2
                      obtain ⟨x16_3, rfl, HA, HK3, HB⟩ := hrel
                      cases gk with
                      | zero => exact absurd HA.out (by simp [verbatimlaw20_EvalRows.l0])
                      | succ k3 =>
                        have H := HA.out
                        clear HA
                        simp only [verbatimlaw20_EvalRows.l0] at H
                        have HC30 := Aside0.mk H
                        clear H
                        go_upto_region 10 with (fail)
                        go_cut [79] (fun v79 wc => ∃ (kq : Nat) (x79_29 : Bool), v79 = .bool x79_29 ∧ Aside0 (verbatimlaw20_EvalRows.j3 kq l0 a2 t235 t237 x16_3 x79_29 = some r) ∧ Aside0 (kq ≤ k3) ∧ Aside0 (Below w.heap.size w wc))
                        case first =>
                          have H := HC30.out
                          clear HC30
                          by_cases c31 : x16_3 < (l0.length : Int)
                          · rw [if_pos c31] at H
                            have c31b0 : decide (x16_3 < (l0.length : Int)) = true := decide_eq_true c31
                            clear c31
                            (first | rw [c31b0] | (simp only [i64_w, i32_w]; rw [c31b0]) | skip)
                            have H' := Aside0.mk H
                            clear H
                            go_wp2
                            go_meet
                            case rel => exact ⟨_, (t237), (by first | rfl | (simp; done) | (simp [*]; done)), H', ⟨by have := HJ5.out; have := HJ17.out; have := HK3.out; first | omega | exact Nat.le_refl _⟩, ⟨by repeat (first | (with_reducible first | exact HB.out | apply below_alloc | apply pw_below_drewN | apply below_drew1) | exact HB.out)⟩⟩
                          · rw [if_neg c31] at H
                            have c31b0 : decide (x16_3 < (l0.length : Int)) = false := decide_eq_false c31
                            clear c31
                            (first | rw [c31b0] | (simp only [i64_w, i32_w]; rw [c31b0]) | skip)
                            have H' := Aside0.mk H
                            clear H
                            go_wp2
                            go_meet
                            case rel => exact ⟨_, (false), (by first | rfl | (simp; done) | (simp [*]; done)), H', ⟨by have := HJ5.out; have := HJ17.out; have := HK3.out; first | omega | exact Nat.le_refl _⟩, ⟨by repeat (first | (with_reducible first | exact HB.out | apply below_alloc | apply pw_below_drewN | apply below_drew1) | exact HB.out)⟩⟩
                        case rest =>
                          clear HC30
                          try clear c1
                          try clear c2
                          try clear p2
                          try clear c3
                          try clear c8
                          try clear c8b0
                          try clear c8b1
                          try clear c9
                          try clear c9b0
                          try clear c9b1
                          try clear c10
                          try clear c10b0
                          try clear c10b1
                          try clear c11
                          try clear c14
                          try clear c15
                          try clear c16
                          try clear c16b0
                          try clear c16b1
                          try clear c16b2
                          try clear c21
                          try clear c23
                          try clear c27
                          try clear c28
                          try clear c29
                          try clear c31
                          try clear c31b0
                          try clear p2
                          obtain ⟨kq, x79_29, rfl, HA, HJ29, HB⟩ := hcut
                          cases kq with
                          | zero => exact absurd HA.out (by simp [verbatimlaw20_EvalRows.j3])
                          | succ kj29 =>
                            have H := HA.out
                            clear HA
                            simp only [verbatimlaw20_EvalRows.j3] at H
                            by_cases c32 : x79_29 = true
                            · subst c32
                              have H1 : ((some (([] : List ByteArray) : List ByteArray)).bind fun y257 => (if 0 ≤ x16_3 then (if x16_3 ≤ (l0.length : Int) then (if y257.length + (l0.take (x16_3 : Int).toNat).length < 8796093022208 then ((some (y257 ++ (l0.take (x16_3 : Int).toNat) : List ByteArray)).bind fun y261 => (if 0 ≤ (wrap64 (x16_3 + 1)) then (if (wrap64 (x16_3 + 1)) ≤ (l0.length : Int) then (if y261.length + (l0.drop ((wrap64 (x16_3 + 1)) : Int).toNat).length < 8796093022208 then ((eval_Find.f kj29 (y261 ++ (l0.drop ((wrap64 (x16_3 + 1)) : Int).toNat)) a2).bind fun bt268 => (if bt268.2 = true then (verbatimlaw20_EvalRows.l0 kj29 l0 a2 t235 t237 (wrap64 (x16_3 + 1))) else (some false))) else (none)) else (none)) else (none))) else (none)) else (none)) else (none))) = some r := by rw [if_pos rfl] at H; exact H
                              clear H
                              have H := H1
                              clear H1
                              obtain ⟨y257, hy257⟩ : ∃ y_ : List ByteArray, y_ = (([] : List ByteArray)) := ⟨_, rfl⟩
                              replace H : (if 0 ≤ x16_3 then (if x16_3 ≤ (l0.length : Int) then (if y257.length + (l0.take (x16_3 : Int).toNat).length < 8796093022208 then ((some (y257 ++ (l0.take (x16_3 : Int).toNat) : List ByteArray)).bind fun y261 => (if 0 ≤ (wrap64 (x16_3 + 1)) then (if (wrap64 (x16_3 + 1)) ≤ (l0.length : Int) then (if y261.length + (l0.drop ((wrap64 (x16_3 + 1)) : Int).toNat).length < 8796093022208 then ((eval_Find.f kj29 (y261 ++ (l0.drop ((wrap64 (x16_3 + 1)) : Int).toNat)) a2).bind fun bt268 => (if bt268.2 = true then (verbatimlaw20_EvalRows.l0 kj29 l0 a2 t235 t237 (wrap64 (x16_3 + 1))) else (some false))) else (none)) else (none)) else (none))) else (none)) else (none)) else (none)) = some r := by first | (rw [hy257]; with_reducible exact H) | (have H2_ := (Option.bind_some _ _).symm.trans H; rw [hy257]; with_reducible exact H2_) | (have H2_ := (Option.bind_some _ _).symm.trans H; with_reducible exact H2_) | with_reducible exact H | (rw [hy257]; exact H) | exact H
                              have Ny257 := Aside0.mk hy257
                              clear hy257
                              by_cases c33 : 0 ≤ x16_3
                              · rw [if_pos c33] at H
                                have c33b0 := eq_true c33
                                have c33b1 : decide (0 ≤ x16_3) = true := decide_eq_true c33
                                clear c33
                                by_cases c34 : x16_3 ≤ (l0.length : Int)
                                · rw [if_pos c34] at H
                                  have c34b0 := eq_true c34
                                  have c34b1 : decide (x16_3 ≤ (l0.length : Int)) = true := decide_eq_true c34
                                  clear c34
                                  by_cases c35 : y257.length + (l0.take (x16_3 : Int).toNat).length < 8796093022208
                                  · rw [if_pos c35] at H
                                    have LMc35 := Aside0.mk c35
                                    clear c35
                                    obtain ⟨y261, hy261⟩ : ∃ y_ : List ByteArray, y_ = (y257 ++ (l0.take (x16_3 : Int).toNat)) := ⟨_, rfl⟩
                                    replace H : (if 0 ≤ (wrap64 (x16_3 + 1)) then (if (wrap64 (x16_3 + 1)) ≤ (l0.length : Int) then (if y261.length + (l0.drop ((wrap64 (x16_3 + 1)) : Int).toNat).length < 8796093022208 then ((eval_Find.f kj29 (y261 ++ (l0.drop ((wrap64 (x16_3 + 1)) : Int).toNat)) a2).bind fun bt268 => (if bt268.2 = true then (verbatimlaw20_EvalRows.l0 kj29 l0 a2 t235 t237 (wrap64 (x16_3 + 1))) else (some false))) else (none)) else (none)) else (none)) = some r := by first | (rw [hy261]; with_reducible exact H) | (have H2_ := (Option.bind_some _ _).symm.trans H; rw [hy261]; with_reducible exact H2_) | (have H2_ := (Option.bind_some _ _).symm.trans H; with_reducible exact H2_) | with_reducible exact H | (rw [hy261]; exact H) | exact H
                                    have Ny261 := Aside0.mk hy261
                                    clear hy261
                                    obtain ⟨ji36, hji36⟩ : ∃ j_ : Int, (wrap64 (x16_3 + 1)) = j_ := ⟨_, rfl⟩
                                    replace H : (if 0 ≤ (ji36) then (if (ji36) ≤ (l0.length : Int) then (if y261.length + (l0.drop ((ji36) : Int).toNat).length < 8796093022208 then ((eval_Find.f kj29 (y261 ++ (l0.drop ((ji36) : Int).toNat)) a2).bind fun bt268 => (if bt268.2 = true then (verbatimlaw20_EvalRows.l0 kj29 l0 a2 t235 t237 ji36) else (some false))) else (none)) else (none)) else (none)) = some r := by first | (rw [hji36] at H; exact H) | (simp only [hji36] at H ⊢; exact H)
                                    have hji36w : (IntKind.i64.wrap (x16_3 + 1)) = ji36 := (i64_w _).trans hji36
                                    by_cases c37 : 0 ≤ (ji36)
                                    · rw [if_pos c37] at H
                                      have c37b0 := eq_true c37
                                      have c37b1 : decide (0 ≤ (ji36)) = true := decide_eq_true c37
                                      clear c37
                                      by_cases c38 : (ji36) ≤ (l0.length : Int)
                                      · rw [if_pos c38] at H
                                        have c38b0 := eq_true c38
                                        have c38b1 : decide ((ji36) ≤ (l0.length : Int)) = true := decide_eq_true c38
                                        clear c38
                                        by_cases c39 : y261.length + (l0.drop ((ji36) : Int).toNat).length < 8796093022208
                                        · rw [if_pos c39] at H
                                          have LMc39 := Aside0.mk c39
                                          clear c39
                                          obtain ⟨y265, hy265⟩ : ∃ y_ : List ByteArray, y_ = (y261 ++ (l0.drop ((ji36) : Int).toNat)) := ⟨_, rfl⟩
                                          replace H : ((eval_Find.f kj29 y265 a2).bind fun bt268 => (if bt268.2 = true then (verbatimlaw20_EvalRows.l0 kj29 l0 a2 t235 t237 ji36) else (some false))) = some r := by first | (rw [hy265]; with_reducible exact H) | (have H2_ := (Option.bind_some _ _).symm.trans H; rw [hy265]; with_reducible exact H2_) | (have H2_ := (Option.bind_some _ _).symm.trans H; with_reducible exact H2_) | with_reducible exact H | (rw [hy265]; exact H) | exact H
                                          have Ny265 := Aside0.mk hy265
                                          clear hy265
                                          replace H := Option.bind_eq_some_iff.mp H
                                          obtain ⟨⟨t268, t269⟩, A400, H⟩ := H
                                          replace H : (if t269 = true then (verbatimlaw20_EvalRows.l0 kj29 l0 a2 t235 t237 ji36) else (some false)) = some r := H
                                          have A40 := Aside0.mk A400
                                          clear A400
                                          by_cases c41 : t269 = true
                                          · subst c41
                                            have H1 : (verbatimlaw20_EvalRows.l0 kj29 l0 a2 t235 t237 ji36) = some r := by rw [if_pos rfl] at H; exact H
                                            clear H
                                            have H := H1
                                            clear H1
                                            have H' := Aside0.mk H
                                            clear H
                                            try go_wp2
                                            have n0_ := Aside0.mk (below_drew1 HB.out)
                                            clear HB
                                            have HB := n0_
                                            clear n0_
                                            obtain ⟨i043, hi043, _, hsz43, _⟩ := info_parts info9
                                            obtain ⟨hcut43, hA43, hC43⟩ := print_take_of (P := Try.prog) Value.string (⟨#[]⟩ : ByteArray) 37 9 .i64 Try.underlying37 hi043 hsz43 A0 c0 l0 x16_3 (of_decide_eq_true (by first | (with_reducible assumption) | assumption)) (of_decide_eq_true (by first | (with_reducible assumption) | assumption)) HC0.out
                                            have HR260 := Aside0.mk (Kd.C_of_reads (h1 := fun _ => rfl) (hA43 _ (Kd.reads_of_C HR0.out)))
                                            have HC260 := Aside0.mk hC43
                                            clear hA43 hC43 hi043 hsz43
                                            obtain ⟨i044, hi044, _, hsz44, _⟩ := info_parts info9
                                            obtain ⟨A44, hcut44, hA44, hC44⟩ := print_drop_of (P := Try.prog) Value.string (⟨#[]⟩ : ByteArray) 37 9 .i64 Try.underlying37 hi044 hsz44 A0 c0 l0 (ji36) (of_decide_eq_true (by first | (with_reducible assumption) | assumption)) (of_decide_eq_true (by first | (with_reducible assumption) | assumption)) HC0.out
                                            have HR264 := Aside0.mk (Kd.C_of_reads (h1 := fun _ => rfl) (hA44 _ (Kd.reads_of_C HR0.out)))
                                            have HC264 := Aside0.mk hC44
                                            clear hA44 hC44 hi044 hsz44
                                            refine start_ (n := 17) (S := fun w' => True) (ds := []) #[false, false, false, false, false, false, false, false, false, false, false, false, false, false, false, false, false] (by kernel_rfl) rfl rfl trivial (fun hHeld => ?_); refine with_tabW verbatimlaw20_EvalRows.tab12 verbatimlaw20_EvalRows.bits12 (fun HT_ HW_ => ?_)
                                            generalize wc.drew = w42 at HB HR260 HR264 hHeld ⊢
                                            refine pure_ (i := 1) (N := some 84) (v := ?_) (a' := ?_) #[false, true, false, false, false, false, false, false, false, false, false, false, false, false, false, false, false] rfl rfl (any_of HT_.out (by kernel_rfl)) (fun _ _ _ h => h) (Or.inl ⟨by rfl, ?_⟩) ?_ ?_
                                            rotate_left
                                            · intro w'
                                              go_simp
                                              with_reducible rfl
                                            rotate_left
                                            · simp only [Act.put, List.setIfInBounds_toArray, List.set_cons_zero, List.set_cons_succ, i64_w, i32_w]
                                              rfl
                                            refine pure_ (i := 2) (N := some 85) (v := ?_) (a' := ?_) #[false, true, true, false, false, false, false, false, false, false, false, false, false, false, false, false, false] rfl rfl (any_of HT_.out (by kernel_rfl)) (fun _ _ _ h => h) (Or.inl ⟨by rfl, ?_⟩) ?_ ?_
                                            rotate_left
                                            · intro w'
                                              go_simp
                                              with_reducible rfl
                                            rotate_left
                                            · simp only [Act.put, List.setIfInBounds_toArray, List.set_cons_zero, List.set_cons_succ, i64_w, i32_w]
                                              rfl
                                            refine pure_ (i := 3) (N := some 86) (v := ?_) (a' := ?_) #[false, true, true, true, false, false, false, false, false, false, false, false, false, false, false, false, false] rfl rfl (any_of HT_.out (by kernel_rfl)) (fun _ _ _ h => h) (Or.inl ⟨by rfl, ?_⟩) ?_ ?_
                                            rotate_left
                                            · intro w'
                                              go_simp
                                              with_reducible rfl
                                            rotate_left
                                            · simp only [Act.put, List.setIfInBounds_toArray, List.set_cons_zero, List.set_cons_succ, i64_w, i32_w]
                                              rfl
                                            refine pure_ (i := 5) (N := some 88) (v := ?_) (a' := ?_) #[false, true, true, true, false, true, false, false, false, false, false, false, false, false, false, false, false] rfl rfl (any_of HT_.out (by kernel_rfl)) (fun _ _ _ h => h) (Or.inl ⟨by rfl, ?_⟩) ?_ ?_
                                            rotate_left
                                            · intro w'
                                              go_simp
                                              with_reducible rfl
                                            rotate_left
                                            · simp only [Act.put, List.setIfInBounds_toArray, List.set_cons_zero, List.set_cons_succ, i64_w, i32_w]
                                              rfl
                                            refine pure_ (i := 6) (N := some 89) (v := ?_) (a' := ?_) #[false, true, true, true, false, true, true, false, false, false, false, false, false, false, false, false, false] rfl rfl (any_of HT_.out (by kernel_rfl)) (fun _ _ _ h => h) (Or.inl ⟨by rfl, ?_⟩) ?_ ?_
                                            rotate_left
                                            · intro w'
                                              go_simp
                                              with_reducible rfl
                                            rotate_left
                                            · simp only [Act.put, List.setIfInBounds_toArray, List.set_cons_zero, List.set_cons_succ, i64_w, i32_w]
                                              rfl
                                            refine pure_ (i := 7) (N := some 90) (v := ?_) (a' := ?_) #[false, true, true, true, false, true, true, true, false, false, false, false, false, false, false, false, false] rfl rfl (any_of HT_.out (by kernel_rfl)) (fun _ _ _ h => h) (Or.inl ⟨by rfl, ?_⟩) ?_ ?_
                                            rotate_left
                                            · intro w'
                                              go_simp
                                              with_reducible rfl
                                            rotate_left
                                            · simp only [Act.put, List.setIfInBounds_toArray, List.set_cons_zero, List.set_cons_succ, i64_w, i32_w]
                                              rfl
                                            refine pure_ (i := 8) (N := some 91) (v := ?_) (a' := ?_) #[false, true, true, true, false, true, true, true, true, false, false, false, false, false, false, false, false] rfl rfl (any_of HT_.out (by kernel_rfl)) (fun _ _ _ h => h) (Or.inl ⟨by rfl, ?_⟩) ?_ ?_
                                            rotate_left
                                            · intro w'
                                              go_simp
                                              with_reducible rfl
                                            rotate_left
                                            · simp only [Act.put, List.setIfInBounds_toArray, List.set_cons_zero, List.set_cons_succ, i64_w, i32_w]
                                              rfl
                                            refine pure_ (i := 10) (N := some 93) (v := ?_) (a' := ?_) #[false, true, true, true, false, true, true, true, true, false, true, false, false, false, false, false, false] rfl rfl (any_of HT_.out (by kernel_rfl)) (fun _ _ _ h => h) (Or.inl ⟨by rfl, ?_⟩) ?_ ?_
                                            rotate_left
                                            · intro w'
                                              go_simp
                                              with_reducible rfl
                                            rotate_left
                                            · simp only [Act.put, List.setIfInBounds_toArray, List.set_cons_zero, List.set_cons_succ, i64_w, i32_w]
                                              rfl
                                            refine one_ (i := 0) (N := some 83) #[true, true, true, true, false, true, true, true, true, false, true, false, false, false, false, false, false] rfl rfl (one_of HT_.out (by kernel_rfl)) (by decide) (fun K hK => ?_)
                                            refine Kd.R_lit_step Kd.string _ 9 ?hg (N := 83) ?hd (xs := ([] : List ByteArray)) (inner := []) (ok := fun _ => True) (okp := fun _ => True) ?hr ?hp (fun _ hk => hk) trivial (Below.refl _ _) (Nat.le_refl _) (by simp) ?_; (case hd => rfl); (case hg => rfl); (case hr => first | (go_simp; done) | (go_simp; rfl)); (case hp => exact (Reps.none _ _))
                                            intro v258 w45 ho46 hb hg_ hnew_
                                            clear hg_ hnew_
                                            (first | rw [← Ny257.out] at ho46 | (simp only [Int.reduceToNat] at ho46; rw [← Ny257.out] at ho46))
                                            have n0_ := Aside0.mk (Kd.R_lower ho46 (below_size (by repeat (first | (with_reducible first | exact HB.out | apply below_alloc | apply pw_below_drewN | apply below_drew1) | exact HB.out))))
                                            have n1_ := Aside0.mk (below_step (by repeat (first | (with_reducible first | exact HB.out | apply below_alloc | apply pw_below_drewN | apply below_drew1) | exact HB.out)) hb)
                                            clear HB
                                            have HO259 := n0_
                                            have HB := n1_
                                            clear n0_ n1_
                                            clear hb ho46
                                            refine hK.out _ _ trivial (fun hHeld => ?_)
                                            clear hK K
                                            refine norm_ (a' := ?_) ?_ ?_
                                            rotate_left
                                            · show Act.put _ (some 83) _ = _
                                              simp only [Act.put, List.setIfInBounds_toArray, List.set_cons_zero, List.set_cons_succ, i64_w, i32_w]
                                              rfl
                                            refine one_ (i := 4) (N := some 87) #[true, true, true, true, true, true, true, true, true, false, true, false, false, false, false, false, false] rfl rfl (one_of HT_.out (by kernel_rfl)) (by decide) (fun K hK => ?_)
                                            refine Kd.R_append_rows_step Kd.string (w0 := w) w.heap.size (by rfl) (.tmp 83) (.tmp 86) 37 9 (.string ⟨#[]⟩) 16 rfl Try.underlying37 info9 rfl (by decide) (by omega) v258 y257 (l0.take (x16_3 : Int).toNat) _ _ _ (fun _ => True) (fun _ => False) rfl rfl ?aO ?aR (fun _ _ h => h) (fun _ h => h.elim) ?aF ?aB ?aS ?aL ?_
                                            (case aR => first | (refine Eq.mp (congrArg (fun n_ => Kd.C _ _ _ n_ _) (show (l0.take (x16_3 : Int).toNat).length = x16_3.toNat from (by rw [List.length_take]; have h_ : (x16_3 : Int) ≤ (l0.length : Int) := of_decide_eq_true (by first | (with_reducible assumption) | assumption); omega))) ?_; repeat (first | exact (Kd.C_below HR260.out HB.out) | (with_reducible refine Kd.C_alloc ?_ _) | (with_reducible refine Kd.C_drewN ?_ _) | (with_reducible refine Kd.C_drew ?_)); done) | (rw [← show (l0.take (x16_3 : Int).toNat).length = x16_3.toNat from (by rw [List.length_take]; have h_ : (x16_3 : Int) ≤ (l0.length : Int) := of_decide_eq_true (by first | (with_reducible assumption) | assumption); omega)]; repeat (first | exact (Kd.C_below HR260.out HB.out) | (with_reducible refine Kd.C_alloc ?_ _) | (with_reducible refine Kd.C_drewN ?_ _) | (with_reducible refine Kd.C_drew ?_))) | (repeat (first | exact (Kd.C_below HR260.out HB.out) | (with_reducible refine Kd.C_alloc ?_ _) | (with_reducible refine Kd.C_drewN ?_ _) | (with_reducible refine Kd.C_drew ?_))))
                                            (case aB => exact (by repeat (first | (with_reducible first | exact HB.out | apply below_alloc | apply pw_below_drewN | apply below_drew1) | exact HB.out)))
                                            (case aF => exact (fun _ _ => trivial))
                                            (case aO => exact (by (with_reducible repeat (first | apply Kd.R_alloc | apply Kd.R_drewN | apply Kd.R_drew)); exact HO259.out))
                                            (case aS => exact (below_size (by repeat (first | (with_reducible first | exact HB.out | apply below_alloc | apply pw_below_drewN | apply below_drew1) | exact HB.out))))
                                            (case aL => have := LMc35.out; have hlx_ := (show (l0.take (x16_3 : Int).toNat).length = x16_3.toNat from (by rw [List.length_take]; have h_ : (x16_3 : Int) ≤ (l0.length : Int) := of_decide_eq_true (by first | (with_reducible assumption) | assumption); omega)); omega)
                                            intro v262 w47 ho hb hg hat
                                            rw [← Ny261.out] at ho
                                            have n0_ := Aside0.mk (hb)
                                            have n1_ := Aside0.mk (ho)
                                            clear HB
                                            clear HO259
                                            have HB := n0_
                                            have HO263 := n1_
                                            clear n0_ n1_
                                            clear ho hb hg hat
                                            refine hK.out _ _ trivial (fun hHeld => ?_)
                                            clear hK K
                                            refine norm_ (a' := ?_) ?_ ?_
                                            rotate_left
                                            · show Act.put _ (some 87) _ = _
                                              simp only [Act.put, List.setIfInBounds_toArray, List.set_cons_zero, List.set_cons_succ, i64_w, i32_w]
                                              rfl
                                            refine one_ (i := 9) (N := some 92) #[true, true, true, true, true, true, true, true, true, true, true, false, false, false, false, false, false] rfl rfl (one_of HT_.out (by kernel_rfl)) (by decide) (fun K hK => ?_)
                                            refine Kd.R_append_rows_step Kd.string (w0 := w) w.heap.size (by rfl) (.tmp 87) (.tmp 91) 37 9 (.string ⟨#[]⟩) 16 rfl Try.underlying37 info9 rfl (by decide) (by omega) v262 y261 (l0.drop ((ji36) : Int).toNat) _ _ _ (fun _ => True) (fun _ => False) rfl rfl ?aO ?aR (fun _ _ h => h) (fun _ h => h.elim) ?aF ?aB ?aS ?aL ?_
                                            (case aR => first | (refine Eq.mp (congrArg (fun n_ => Kd.C _ _ _ n_ _) (show (l0.drop ((ji36) : Int).toNat).length = (l0.length - (ji36).toNat) from List.length_drop)) ?_; repeat (first | exact (Kd.C_below HR264.out HB.out) | (with_reducible refine Kd.C_alloc ?_ _) | (with_reducible refine Kd.C_drewN ?_ _) | (with_reducible refine Kd.C_drew ?_)); done) | (rw [← show (l0.drop ((ji36) : Int).toNat).length = (l0.length - (ji36).toNat) from List.length_drop]; repeat (first | exact (Kd.C_below HR264.out HB.out) | (with_reducible refine Kd.C_alloc ?_ _) | (with_reducible refine Kd.C_drewN ?_ _) | (with_reducible refine Kd.C_drew ?_))) | (repeat (first | exact (Kd.C_below HR264.out HB.out) | (with_reducible refine Kd.C_alloc ?_ _) | (with_reducible refine Kd.C_drewN ?_ _) | (with_reducible refine Kd.C_drew ?_))))
                                            (case aB => exact (by repeat (first | (with_reducible first | exact HB.out | apply below_alloc | apply pw_below_drewN | apply below_drew1) | exact HB.out)))
                                            (case aF => exact (fun _ _ => trivial))
                                            (case aO => exact (by (with_reducible repeat (first | apply Kd.R_alloc | apply Kd.R_drewN | apply Kd.R_drew)); exact HO263.out))
                                            (case aS => exact (below_size (by repeat (first | (with_reducible first | exact HB.out | apply below_alloc | apply pw_below_drewN | apply below_drew1) | exact HB.out))))
                                            (case aL => have := LMc39.out; have hlx_ := (show (l0.drop ((ji36) : Int).toNat).length = (l0.length - (ji36).toNat) from List.length_drop); omega)
                                            intro v266 w48 ho hb hg hat
                                            rw [← Ny265.out] at ho
                                            have n0_ := Aside0.mk (hb)
                                            have n1_ := Aside0.mk (ho)
                                            clear HB
                                            clear HO263
                                            have HB := n0_
                                            have HO267 := n1_
                                            clear n0_ n1_
                                            clear ho hb hg hat
                                            obtain ⟨Ao49, co49, eo49⟩ := Kd.R_slice HO267.out
                                            (first | subst eo49 | (injection eo49 with f1_ f2_ f3_; have f4_ := f1_.symm; have f5_ := f3_.symm; clear f1_ f2_ f3_; subst f4_; subst f5_))
                                            refine hK.out _ _ trivial (fun hHeld => ?_)
                                            clear hK K
                                            refine norm_ (a' := ?_) ?_ ?_
                                            rotate_left
                                            · show Act.put _ (some 92) _ = _
                                              simp only [Act.put, List.setIfInBounds_toArray, List.set_cons_zero, List.set_cons_succ, i64_w, i32_w]
                                              rfl
                                            refine one_ (i := 11) (N := some 94) #[true, true, true, true, true, true, true, true, true, true, true, true, false, false, false, false, false] rfl rfl (one_of HT_.out (by kernel_rfl)) (by decide) (fun K hK => ?_)
                                            refine goes_ Try.func23 (by kernel_rfl) rfl #[.slice Ao49 y265.length co49, .string a2] (by rfl) rfl rfl (by (try simp only [List.map_toArray, List.map_cons, List.map_nil]); first | done | rfl | (simp only [List.length_drop, List.length_take]; rfl)) ?_
                                            with_reducible refine (eval_Find.calls kj29 _ _ y265 a2 t268 true _ ?side1 ?side2 ?side3 A40.out).mono ?_
                                            (case side1 => first | exact GlobOk.below HG.out (by repeat (first | (with_reducible first | exact HB.out | apply below_alloc | apply pw_below_drewN | apply below_drew1) | exact HB.out)) | (repeat (first | exact HG.out | (with_reducible refine GlobOk.alloc ?_ _) | (with_reducible refine GlobOk.drewN ?_ _) | (with_reducible refine GlobOk.drew ?_))))
                                            (case side2 => repeat (first | exact (Kd.R_reads' HO267.out).2.2 | (with_reducible refine Kd.C_alloc ?_ _) | (with_reducible refine Kd.C_drewN ?_ _) | (with_reducible refine Kd.C_drew ?_)))
                                            (case side3 => exact (Kd.R_reads' HO267.out).2.1)
                                            rintro e w50 ⟨v270, rfl, ho0, hb⟩
                                            refine ⟨_, rfl, ?_⟩
                                            have n0_ := Aside0.mk (Kd.R_below (by (with_reducible repeat (first | apply Kd.R_alloc | apply Kd.R_drewN | apply Kd.R_drew)); exact HO267.out) hb)
                                            have n1_ := Aside0.mk (Kd.R_lower ho0 (below_size (by repeat (first | (with_reducible first | exact HB.out | apply below_alloc | apply pw_below_drewN | apply below_drew1) | exact HB.out))))
                                            have n2_ := Aside0.mk (below_step (by repeat (first | (with_reducible first | exact HB.out | apply below_alloc | apply pw_below_drewN | apply below_drew1) | exact HB.out)) hb)
                                            clear HO267
                                            clear HB
                                            have HO267 := n0_
                                            have HO271 := n1_
                                            have HB := n2_
                                            clear n0_ n1_ n2_
                                            (try clear hb)
                                            (try clear hb2)
                                            (try clear hk)
                                            (try clear hi)
                                            (try clear ho0)
                                            refine hK.out _ _ trivial (fun hHeld => ?_)
                                            clear hK K
                                            refine norm_ (a' := ?_) ?_ ?_
                                            rotate_left
                                            · show Act.put _ (some 94) _ = _
                                              simp only [Act.put, List.setIfInBounds_toArray, List.set_cons_zero, List.set_cons_succ, i64_w, i32_w]
                                              rfl
                                            refine pure_ (i := 12) (N := some 82) (v := ?_) (a' := ?_) #[true, true, true, true, true, true, true, true, true, true, true, true, true, false, false, false, false] rfl rfl (any_of HT_.out (by kernel_rfl)) (fun _ _ _ h => h) (Or.inl ⟨by rfl, ?_⟩) ?_ ?_
                                            rotate_left
                                            · intro w'
                                              go_simp
                                              with_reducible rfl
                                            rotate_left
                                            · simp only [Act.put, List.setIfInBounds_toArray, List.set_cons_zero, List.set_cons_succ, i64_w, i32_w]
                                              rfl
                                            refine pure_ (i := 13) (N := some 95) (v := ?_) (a' := ?_) #[true, true, true, true, true, true, true, true, true, true, true, true, true, true, false, false, false] rfl rfl (any_of HT_.out (by kernel_rfl)) (fun _ _ _ h => h) (Or.inl ⟨by rfl, ?_⟩) ?_ ?_
                                            rotate_left
                                            · intro w'
                                              go_simp
                                              with_reducible rfl
                                            rotate_left
                                            · simp only [Act.put, List.setIfInBounds_toArray, List.set_cons_zero, List.set_cons_succ, i64_w, i32_w]
                                              rfl
                                            refine pure_ (i := 14) (N := some 96) (v := ?_) (a' := ?_) #[true, true, true, true, true, true, true, true, true, true, true, true, true, true, true, false, false] rfl rfl (any_of HT_.out (by kernel_rfl)) (fun _ _ _ h => h) (Or.inl ⟨by rfl, ?_⟩) ?_ ?_
                                            rotate_left
                                            · intro w'
                                              go_simp
                                              with_reducible rfl
                                            rotate_left
                                            · simp only [Act.put, List.setIfInBounds_toArray, List.set_cons_zero, List.set_cons_succ, i64_w, i32_w]
                                              rfl
                                            refine pure_ (i := 15) (N := some 17) (v := ?_) (a' := ?_) #[true, true, true, true, true, true, true, true, true, true, true, true, true, true, true, true, false] rfl rfl (any_of HT_.out (by kernel_rfl)) (fun _ _ _ h => h) (Or.inl ⟨by rfl, ?_⟩) ?_ ?_
                                            rotate_left
                                            · intro w'
                                              go_simp
                                              with_reducible rfl
                                            rotate_left
                                            · simp only [Act.put, List.setIfInBounds_toArray, List.set_cons_zero, List.set_cons_succ, i64_w, i32_w]
                                              rfl
                                            refine pure_ (i := 16) (N := some 18) (v := ?_) (a' := ?_) #[true, true, true, true, true, true, true, true, true, true, true, true, true, true, true, true, true] rfl rfl (any_of HT_.out (by kernel_rfl)) (fun _ _ _ h => h) (Or.inl ⟨by rfl, ?_⟩) ?_ ?_
                                            rotate_left
                                            · intro w'
                                              go_simp
                                              with_reducible rfl
                                            rotate_left
                                            · simp only [Act.put, List.setIfInBounds_toArray, List.set_cons_zero, List.set_cons_succ, i64_w, i32_w]
                                              rfl
                                            refine done_ (done_of HT_.out (by kernel_rfl)) ?_
                                            try go_wp2
                                            go_roundg kj29
                                            case measure => have := HJ5.out; have := HJ17.out; have := HK3.out; have := HJ29.out; omega
                                            case rel => exact ⟨(ji36), (by first | rfl | (simp; done) | (simp only [← hji36] <;> (first | rfl | simp)) | (simp [*]; done)), H', ⟨by have := HJ5.out; have := HJ17.out; have := HK3.out; have := HJ29.out; omega⟩, ⟨by repeat (first | (with_reducible first | exact HB.out | apply below_alloc | apply pw_below_drewN | apply below_drew1) | exact HB.out)⟩⟩
                                          · replace c41 := Bool.eq_false_iff.mpr c41
                                            subst c41
                                            have H1 : (some false) = some r := by rw [if_neg (show ¬ (false = true) by decide)] at H; exact H
                                            clear H
                                            have H := H1
                                            clear H1
                                            obtain rfl := Option.some.inj H
                                            try go_wp2
                                            have n0_ := Aside0.mk (below_drew1 HB.out)
                                            clear HB
                                            have HB := n0_
                                            clear n0_
                                            obtain ⟨i052, hi052, _, hsz52, _⟩ := info_parts info9
                                            obtain ⟨hcut52, hA52, hC52⟩ := print_take_of (P := Try.prog) Value.string (⟨#[]⟩ : ByteArray) 37 9 .i64 Try.underlying37 hi052 hsz52 A0 c0 l0 x16_3 (of_decide_eq_true (by first | (with_reducible assumption) | assumption)) (of_decide_eq_true (by first | (with_reducible assumption) | assumption)) HC0.out
                                            have HR260 := Aside0.mk (Kd.C_of_reads (h1 := fun _ => rfl) (hA52 _ (Kd.reads_of_C HR0.out)))
                                            have HC260 := Aside0.mk hC52
                                            clear hA52 hC52 hi052 hsz52
                                            obtain ⟨i053, hi053, _, hsz53, _⟩ := info_parts info9
                                            obtain ⟨A53, hcut53, hA53, hC53⟩ := print_drop_of (P := Try.prog) Value.string (⟨#[]⟩ : ByteArray) 37 9 .i64 Try.underlying37 hi053 hsz53 A0 c0 l0 (ji36) (of_decide_eq_true (by first | (with_reducible assumption) | assumption)) (of_decide_eq_true (by first | (with_reducible assumption) | assumption)) HC0.out
                                            have HR264 := Aside0.mk (Kd.C_of_reads (h1 := fun _ => rfl) (hA53 _ (Kd.reads_of_C HR0.out)))
                                            have HC264 := Aside0.mk hC53
                                            clear hA53 hC53 hi053 hsz53
                                            refine start_ (n := 17) (S := fun w' => True) (ds := []) #[false, false, false, false, false, false, false, false, false, false, false, false, false, false, false, false, false] (by kernel_rfl) rfl rfl trivial (fun hHeld => ?_); refine with_tabW verbatimlaw20_EvalRows.tab12 verbatimlaw20_EvalRows.bits12 (fun HT_ HW_ => ?_)
                                            generalize wc.drew = w51 at HB HR260 HR264 hHeld ⊢
                                            refine pure_ (i := 1) (N := some 84) (v := ?_) (a' := ?_) #[false, true, false, false, false, false, false, false, false, false, false, false, false, false, false, false, false] rfl rfl (any_of HT_.out (by kernel_rfl)) (fun _ _ _ h => h) (Or.inl ⟨by rfl, ?_⟩) ?_ ?_
                                            rotate_left
                                            · intro w'
                                              go_simp
                                              with_reducible rfl
                                            rotate_left
                                            · simp only [Act.put, List.setIfInBounds_toArray, List.set_cons_zero, List.set_cons_succ, i64_w, i32_w]
                                              rfl
                                            refine pure_ (i := 2) (N := some 85) (v := ?_) (a' := ?_) #[false, true, true, false, false, false, false, false, false, false, false, false, false, false, false, false, false] rfl rfl (any_of HT_.out (by kernel_rfl)) (fun _ _ _ h => h) (Or.inl ⟨by rfl, ?_⟩) ?_ ?_
                                            rotate_left
                                            · intro w'
                                              go_simp
                                              with_reducible rfl
                                            rotate_left
                                            · simp only [Act.put, List.setIfInBounds_toArray, List.set_cons_zero, List.set_cons_succ, i64_w, i32_w]
                                              rfl
                                            refine pure_ (i := 3) (N := some 86) (v := ?_) (a' := ?_) #[false, true, true, true, false, false, false, false, false, false, false, false, false, false, false, false, false] rfl rfl (any_of HT_.out (by kernel_rfl)) (fun _ _ _ h => h) (Or.inl ⟨by rfl, ?_⟩) ?_ ?_
                                            rotate_left
                                            · intro w'
                                              go_simp
                                              with_reducible rfl
                                            rotate_left
                                            · simp only [Act.put, List.setIfInBounds_toArray, List.set_cons_zero, List.set_cons_succ, i64_w, i32_w]
                                              rfl
                                            refine pure_ (i := 5) (N := some 88) (v := ?_) (a' := ?_) #[false, true, true, true, false, true, false, false, false, false, false, false, false, false, false, false, false] rfl rfl (any_of HT_.out (by kernel_rfl)) (fun _ _ _ h => h) (Or.inl ⟨by rfl, ?_⟩) ?_ ?_
                                            rotate_left
                                            · intro w'
                                              go_simp
                                              with_reducible rfl
                                            rotate_left
                                            · simp only [Act.put, List.setIfInBounds_toArray, List.set_cons_zero, List.set_cons_succ, i64_w, i32_w]
                                              rfl
                                            refine pure_ (i := 6) (N := some 89) (v := ?_) (a' := ?_) #[false, true, true, true, false, true, true, false, false, false, false, false, false, false, false, false, false] rfl rfl (any_of HT_.out (by kernel_rfl)) (fun _ _ _ h => h) (Or.inl ⟨by rfl, ?_⟩) ?_ ?_
                                            rotate_left
                                            · intro w'
                                              go_simp
                                              with_reducible rfl
                                            rotate_left
                                            · simp only [Act.put, List.setIfInBounds_toArray, List.set_cons_zero, List.set_cons_succ, i64_w, i32_w]
                                              rfl
                                            refine pure_ (i := 7) (N := some 90) (v := ?_) (a' := ?_) #[false, true, true, true, false, true, true, true, false, false, false, false, false, false, false, false, false] rfl rfl (any_of HT_.out (by kernel_rfl)) (fun _ _ _ h => h) (Or.inl ⟨by rfl, ?_⟩) ?_ ?_
                                            rotate_left
                                            · intro w'
                                              go_simp
                                              with_reducible rfl
                                            rotate_left
                                            · simp only [Act.put, List.setIfInBounds_toArray, List.set_cons_zero, List.set_cons_succ, i64_w, i32_w]
                                              rfl
                                            refine pure_ (i := 8) (N := some 91) (v := ?_) (a' := ?_) #[false, true, true, true, false, true, true, true, true, false, false, false, false, false, false, false, false] rfl rfl (any_of HT_.out (by kernel_rfl)) (fun _ _ _ h => h) (Or.inl ⟨by rfl, ?_⟩) ?_ ?_
                                            rotate_left
                                            · intro w'
                                              go_simp
                                              with_reducible rfl
                                            rotate_left
                                            · simp only [Act.put, List.setIfInBounds_toArray, List.set_cons_zero, List.set_cons_succ, i64_w, i32_w]
                                              rfl
                                            refine pure_ (i := 10) (N := some 93) (v := ?_) (a' := ?_) #[false, true, true, true, false, true, true, true, true, false, true, false, false, false, false, false, false] rfl rfl (any_of HT_.out (by kernel_rfl)) (fun _ _ _ h => h) (Or.inl ⟨by rfl, ?_⟩) ?_ ?_
                                            rotate_left
                                            · intro w'
                                              go_simp
                                              with_reducible rfl
                                            rotate_left
                                            · simp only [Act.put, List.setIfInBounds_toArray, List.set_cons_zero, List.set_cons_succ, i64_w, i32_w]
                                              rfl
                                            refine one_ (i := 0) (N := some 83) #[true, true, true, true, false, true, true, true, true, false, true, false, false, false, false, false, false] rfl rfl (one_of HT_.out (by kernel_rfl)) (by decide) (fun K hK => ?_)
                                            refine Kd.R_lit_step Kd.string _ 9 ?hg (N := 83) ?hd (xs := ([] : List ByteArray)) (inner := []) (ok := fun _ => True) (okp := fun _ => True) ?hr ?hp (fun _ hk => hk) trivial (Below.refl _ _) (Nat.le_refl _) (by simp) ?_; (case hd => rfl); (case hg => rfl); (case hr => first | (go_simp; done) | (go_simp; rfl)); (case hp => exact (Reps.none _ _))
                                            intro v258 w54 ho55 hb hg_ hnew_
                                            clear hg_ hnew_
                                            (first | rw [← Ny257.out] at ho55 | (simp only [Int.reduceToNat] at ho55; rw [← Ny257.out] at ho55))
                                            have n0_ := Aside0.mk (Kd.R_lower ho55 (below_size (by repeat (first | (with_reducible first | exact HB.out | apply below_alloc | apply pw_below_drewN | apply below_drew1) | exact HB.out))))
                                            have n1_ := Aside0.mk (below_step (by repeat (first | (with_reducible first | exact HB.out | apply below_alloc | apply pw_below_drewN | apply below_drew1) | exact HB.out)) hb)
                                            clear HB
                                            have HO259 := n0_
                                            have HB := n1_
                                            clear n0_ n1_
                                            clear hb ho55
                                            refine hK.out _ _ trivial (fun hHeld => ?_)
                                            clear hK K
                                            refine norm_ (a' := ?_) ?_ ?_
                                            rotate_left
                                            · show Act.put _ (some 83) _ = _
                                              simp only [Act.put, List.setIfInBounds_toArray, List.set_cons_zero, List.set_cons_succ, i64_w, i32_w]
                                              rfl
                                            refine one_ (i := 4) (N := some 87) #[true, true, true, true, true, true, true, true, true, false, true, false, false, false, false, false, false] rfl rfl (one_of HT_.out (by kernel_rfl)) (by decide) (fun K hK => ?_)
                                            refine Kd.R_append_rows_step Kd.string (w0 := w) w.heap.size (by rfl) (.tmp 83) (.tmp 86) 37 9 (.string ⟨#[]⟩) 16 rfl Try.underlying37 info9 rfl (by decide) (by omega) v258 y257 (l0.take (x16_3 : Int).toNat) _ _ _ (fun _ => True) (fun _ => False) rfl rfl ?aO ?aR (fun _ _ h => h) (fun _ h => h.elim) ?aF ?aB ?aS ?aL ?_
                                            (case aR => first | (refine Eq.mp (congrArg (fun n_ => Kd.C _ _ _ n_ _) (show (l0.take (x16_3 : Int).toNat).length = x16_3.toNat from (by rw [List.length_take]; have h_ : (x16_3 : Int) ≤ (l0.length : Int) := of_decide_eq_true (by first | (with_reducible assumption) | assumption); omega))) ?_; repeat (first | exact (Kd.C_below HR260.out HB.out) | (with_reducible refine Kd.C_alloc ?_ _) | (with_reducible refine Kd.C_drewN ?_ _) | (with_reducible refine Kd.C_drew ?_)); done) | (rw [← show (l0.take (x16_3 : Int).toNat).length = x16_3.toNat from (by rw [List.length_take]; have h_ : (x16_3 : Int) ≤ (l0.length : Int) := of_decide_eq_true (by first | (with_reducible assumption) | assumption); omega)]; repeat (first | exact (Kd.C_below HR260.out HB.out) | (with_reducible refine Kd.C_alloc ?_ _) | (with_reducible refine Kd.C_drewN ?_ _) | (with_reducible refine Kd.C_drew ?_))) | (repeat (first | exact (Kd.C_below HR260.out HB.out) | (with_reducible refine Kd.C_alloc ?_ _) | (with_reducible refine Kd.C_drewN ?_ _) | (with_reducible refine Kd.C_drew ?_))))
                                            (case aB => exact (by repeat (first | (with_reducible first | exact HB.out | apply below_alloc | apply pw_below_drewN | apply below_drew1) | exact HB.out)))
                                            (case aF => exact (fun _ _ => trivial))
                                            (case aO => exact (by (with_reducible repeat (first | apply Kd.R_alloc | apply Kd.R_drewN | apply Kd.R_drew)); exact HO259.out))
                                            (case aS => exact (below_size (by repeat (first | (with_reducible first | exact HB.out | apply below_alloc | apply pw_below_drewN | apply below_drew1) | exact HB.out))))
                                            (case aL => have := LMc35.out; have hlx_ := (show (l0.take (x16_3 : Int).toNat).length = x16_3.toNat from (by rw [List.length_take]; have h_ : (x16_3 : Int) ≤ (l0.length : Int) := of_decide_eq_true (by first | (with_reducible assumption) | assumption); omega)); omega)
                                            intro v262 w56 ho hb hg hat
                                            rw [← Ny261.out] at ho
                                            have n0_ := Aside0.mk (hb)
                                            have n1_ := Aside0.mk (ho)
                                            clear HB
                                            clear HO259
                                            have HB := n0_
                                            have HO263 := n1_
                                            clear n0_ n1_
                                            clear ho hb hg hat
                                            refine hK.out _ _ trivial (fun hHeld => ?_)
                                            clear hK K
                                            refine norm_ (a' := ?_) ?_ ?_
                                            rotate_left
                                            · show Act.put _ (some 87) _ = _
                                              simp only [Act.put, List.setIfInBounds_toArray, List.set_cons_zero, List.set_cons_succ, i64_w, i32_w]
                                              rfl
                                            refine one_ (i := 9) (N := some 92) #[true, true, true, true, true, true, true, true, true, true, true, false, false, false, false, false, false] rfl rfl (one_of HT_.out (by kernel_rfl)) (by decide) (fun K hK => ?_)
                                            refine Kd.R_append_rows_step Kd.string (w0 := w) w.heap.size (by rfl) (.tmp 87) (.tmp 91) 37 9 (.string ⟨#[]⟩) 16 rfl Try.underlying37 info9 rfl (by decide) (by omega) v262 y261 (l0.drop ((ji36) : Int).toNat) _ _ _ (fun _ => True) (fun _ => False) rfl rfl ?aO ?aR (fun _ _ h => h) (fun _ h => h.elim) ?aF ?aB ?aS ?aL ?_
                                            (case aR => first | (refine Eq.mp (congrArg (fun n_ => Kd.C _ _ _ n_ _) (show (l0.drop ((ji36) : Int).toNat).length = (l0.length - (ji36).toNat) from List.length_drop)) ?_; repeat (first | exact (Kd.C_below HR264.out HB.out) | (with_reducible refine Kd.C_alloc ?_ _) | (with_reducible refine Kd.C_drewN ?_ _) | (with_reducible refine Kd.C_drew ?_)); done) | (rw [← show (l0.drop ((ji36) : Int).toNat).length = (l0.length - (ji36).toNat) from List.length_drop]; repeat (first | exact (Kd.C_below HR264.out HB.out) | (with_reducible refine Kd.C_alloc ?_ _) | (with_reducible refine Kd.C_drewN ?_ _) | (with_reducible refine Kd.C_drew ?_))) | (repeat (first | exact (Kd.C_below HR264.out HB.out) | (with_reducible refine Kd.C_alloc ?_ _) | (with_reducible refine Kd.C_drewN ?_ _) | (with_reducible refine Kd.C_drew ?_))))
                                            (case aB => exact (by repeat (first | (with_reducible first | exact HB.out | apply below_alloc | apply pw_below_drewN | apply below_drew1) | exact HB.out)))
                                            (case aF => exact (fun _ _ => trivial))
                                            (case aO => exact (by (with_reducible repeat (first | apply Kd.R_alloc | apply Kd.R_drewN | apply Kd.R_drew)); exact HO263.out))
                                            (case aS => exact (below_size (by repeat (first | (with_reducible first | exact HB.out | apply below_alloc | apply pw_below_drewN | apply below_drew1) | exact HB.out))))
                                            (case aL => have := LMc39.out; have hlx_ := (show (l0.drop ((ji36) : Int).toNat).length = (l0.length - (ji36).toNat) from List.length_drop); omega)
                                            intro v266 w57 ho hb hg hat
                                            rw [← Ny265.out] at ho
                                            have n0_ := Aside0.mk (hb)
                                            have n1_ := Aside0.mk (ho)
                                            clear HB
                                            clear HO263
                                            have HB := n0_
                                            have HO267 := n1_
                                            clear n0_ n1_
                                            clear ho hb hg hat
                                            obtain ⟨Ao58, co58, eo58⟩ := Kd.R_slice HO267.out
                                            (first | subst eo58 | (injection eo58 with f1_ f2_ f3_; have f4_ := f1_.symm; have f5_ := f3_.symm; clear f1_ f2_ f3_; subst f4_; subst f5_))
                                            refine hK.out _ _ trivial (fun hHeld => ?_)
                                            clear hK K
                                            refine norm_ (a' := ?_) ?_ ?_
                                            rotate_left
                                            · show Act.put _ (some 92) _ = _
                                              simp only [Act.put, List.setIfInBounds_toArray, List.set_cons_zero, List.set_cons_succ, i64_w, i32_w]
                                              rfl
                                            refine one_ (i := 11) (N := some 94) #[true, true, true, true, true, true, true, true, true, true, true, true, false, false, false, false, false] rfl rfl (one_of HT_.out (by kernel_rfl)) (by decide) (fun K hK => ?_)
                                            refine goes_ Try.func23 (by kernel_rfl) rfl #[.slice Ao58 y265.length co58, .string a2] (by rfl) rfl rfl (by (try simp only [List.map_toArray, List.map_cons, List.map_nil]); first | done | rfl | (simp only [List.length_drop, List.length_take]; rfl)) ?_
                                            with_reducible refine (eval_Find.calls kj29 _ _ y265 a2 t268 false _ ?side1 ?side2 ?side3 A40.out).mono ?_
                                            (case side1 => first | exact GlobOk.below HG.out (by repeat (first | (with_reducible first | exact HB.out | apply below_alloc | apply pw_below_drewN | apply below_drew1) | exact HB.out)) | (repeat (first | exact HG.out | (with_reducible refine GlobOk.alloc ?_ _) | (with_reducible refine GlobOk.drewN ?_ _) | (with_reducible refine GlobOk.drew ?_))))
                                            (case side2 => repeat (first | exact (Kd.R_reads' HO267.out).2.2 | (with_reducible refine Kd.C_alloc ?_ _) | (with_reducible refine Kd.C_drewN ?_ _) | (with_reducible refine Kd.C_drew ?_)))
                                            (case side3 => exact (Kd.R_reads' HO267.out).2.1)
                                            rintro e w59 ⟨v270, rfl, ho0, hb⟩
                                            refine ⟨_, rfl, ?_⟩
                                            have n0_ := Aside0.mk (Kd.R_below (by (with_reducible repeat (first | apply Kd.R_alloc | apply Kd.R_drewN | apply Kd.R_drew)); exact HO267.out) hb)
                                            have n1_ := Aside0.mk (Kd.R_lower ho0 (below_size (by repeat (first | (with_reducible first | exact HB.out | apply below_alloc | apply pw_below_drewN | apply below_drew1) | exact HB.out))))
                                            have n2_ := Aside0.mk (below_step (by repeat (first | (with_reducible first | exact HB.out | apply below_alloc | apply pw_below_drewN | apply below_drew1) | exact HB.out)) hb)
                                            clear HO267
                                            clear HB
                                            have HO267 := n0_
                                            have HO271 := n1_
                                            have HB := n2_
                                            clear n0_ n1_ n2_
                                            (try clear hb)
                                            (try clear hb2)
                                            (try clear hk)
                                            (try clear hi)
                                            (try clear ho0)
                                            refine hK.out _ _ trivial (fun hHeld => ?_)
                                            clear hK K
                                            refine norm_ (a' := ?_) ?_ ?_
                                            rotate_left
                                            · show Act.put _ (some 94) _ = _
                                              simp only [Act.put, List.setIfInBounds_toArray, List.set_cons_zero, List.set_cons_succ, i64_w, i32_w]
                                              rfl
                                            refine pure_ (i := 12) (N := some 82) (v := ?_) (a' := ?_) #[true, true, true, true, true, true, true, true, true, true, true, true, true, false, false, false, false] rfl rfl (any_of HT_.out (by kernel_rfl)) (fun _ _ _ h => h) (Or.inl ⟨by rfl, ?_⟩) ?_ ?_
                                            rotate_left
                                            · intro w'
                                              go_simp
                                              with_reducible rfl
                                            rotate_left
                                            · simp only [Act.put, List.setIfInBounds_toArray, List.set_cons_zero, List.set_cons_succ, i64_w, i32_w]
                                              rfl
                                            refine pure_ (i := 13) (N := some 95) (v := ?_) (a' := ?_) #[true, true, true, true, true, true, true, true, true, true, true, true, true, true, false, false, false] rfl rfl (any_of HT_.out (by kernel_rfl)) (fun _ _ _ h => h) (Or.inl ⟨by rfl, ?_⟩) ?_ ?_
                                            rotate_left
                                            · intro w'
                                              go_simp
                                              with_reducible rfl
                                            rotate_left
                                            · simp only [Act.put, List.setIfInBounds_toArray, List.set_cons_zero, List.set_cons_succ, i64_w, i32_w]
                                              rfl
                                            refine pure_ (i := 14) (N := some 96) (v := ?_) (a' := ?_) #[true, true, true, true, true, true, true, true, true, true, true, true, true, true, true, false, false] rfl rfl (any_of HT_.out (by kernel_rfl)) (fun _ _ _ h => h) (Or.inl ⟨by rfl, ?_⟩) ?_ ?_
                                            rotate_left
                                            · intro w'
                                              go_simp
                                              with_reducible rfl
                                            rotate_left
                                            · simp only [Act.put, List.setIfInBounds_toArray, List.set_cons_zero, List.set_cons_succ, i64_w, i32_w]
                                              rfl
                                            refine pure_ (i := 15) (N := some 17) (v := ?_) (a' := ?_) #[true, true, true, true, true, true, true, true, true, true, true, true, true, true, true, true, false] rfl rfl (any_of HT_.out (by kernel_rfl)) (fun _ _ _ h => h) (Or.inl ⟨by rfl, ?_⟩) ?_ ?_
                                            rotate_left
                                            · intro w'
                                              go_simp
                                              with_reducible rfl
                                            rotate_left
                                            · simp only [Act.put, List.setIfInBounds_toArray, List.set_cons_zero, List.set_cons_succ, i64_w, i32_w]
                                              rfl
                                            refine pure_ (i := 16) (N := some 18) (v := ?_) (a' := ?_) #[true, true, true, true, true, true, true, true, true, true, true, true, true, true, true, true, true] rfl rfl (any_of HT_.out (by kernel_rfl)) (fun _ _ _ h => h) (Or.inl ⟨by rfl, ?_⟩) ?_ ?_
                                            rotate_left
                                            · intro w'
                                              go_simp
                                              with_reducible rfl
                                            rotate_left
                                            · simp only [Act.put, List.setIfInBounds_toArray, List.set_cons_zero, List.set_cons_succ, i64_w, i32_w]
                                              rfl
                                            refine done_ (done_of HT_.out (by kernel_rfl)) ?_
                                            try go_wp2
                                            go_ret
                                            exact ⟨by first | rfl | (simp [errW_none, errW_some] <;> rfl) | (simp only [← hji36]; first | rfl | (simp [errW_none, errW_some] <;> rfl)) | (simp [*, errW_none, errW_some] <;> rfl), by repeat (first | (with_reducible first | exact HB.out | apply below_alloc | apply pw_below_drewN | apply below_drew1) | exact HB.out)⟩
                                        · rw [if_neg c39] at H
                                          exact absurd H (by simp)
                                      · rw [if_neg c38] at H
                                        exact absurd H (by simp)
                                    · rw [if_neg c37] at H
                                      exact absurd H (by simp)
                                  · rw [if_neg c35] at H
                                    exact absurd H (by simp)
                                · rw [if_neg c34] at H
                                  exact absurd H (by simp)
                              · rw [if_neg c33] at H
                                exact absurd H (by simp)
                            · replace c32 := Bool.eq_false_iff.mpr c32
                              subst c32
                              have H1 : ((eval_Find.f kj29 ([] : List ByteArray) a2).bind fun bt272 => (if t235 = true then (some bt272.2) else (some false))) = some r := by rw [if_neg (show ¬ (false = true) by decide)] at H; exact H
                              clear H
                              have H := H1
                              clear H1
                              replace H := Option.bind_eq_some_iff.mp H
                              obtain ⟨⟨t272, t273⟩, A600, H⟩ := H
                              replace H : (if t235 = true then (some t273) else (some false)) = some r := H
                              have A60 := Aside0.mk A600
                              clear A600
                              by_cases c61 : t235 = true
                              · subst c61
                                have H1 : (some t273) = some r := by rw [if_pos rfl] at H; exact H
                                clear H
                                have H := H1
                                clear H1
                                obtain rfl := Option.some.inj H
                                go_wp2_with (first | ((with_reducible refine gate_callee (f := 23) rfl ?_); refine goesL_ (some 101) rfl rfl Try.func23 (by kernel_rfl) rfl #[.slice none 0 0, .string a2] rfl (by (try simp only [List.map_toArray, List.map_cons, List.map_nil]); first | done | rfl | (simp only [List.length_drop, List.length_take]; rfl)) ?_; (refine (eval_Find.calls kj29 _ _ ([] : List ByteArray) a2 t272 t273 _ ?side1 ?side2 ?side3 A60.out).mono ?_); (case side1 => first | exact GlobOk.below HG.out (by repeat (first | (with_reducible first | exact HB.out | apply below_alloc | apply pw_below_drewN | apply below_drew1) | exact HB.out)) | (repeat (first | exact HG.out | (with_reducible refine GlobOk.alloc ?_ _) | (with_reducible refine GlobOk.drewN ?_ _) | (with_reducible refine GlobOk.drew ?_)))); (case side2 => exact Kd.C_nil _ _); (case side3 => exact Nat.le_refl _); rintro e w62 ⟨v274, rfl, ho0, hb⟩; refine ⟨_, rfl, ?_⟩; have n0_ := Aside0.mk (Kd.R_lower ho0 (below_size (by repeat (first | (with_reducible first | exact HB.out | apply below_alloc | apply pw_below_drewN | apply below_drew1) | exact HB.out)))); have n1_ := Aside0.mk (below_step (by repeat (first | (with_reducible first | exact HB.out | apply below_alloc | apply pw_below_drewN | apply below_drew1) | exact HB.out)) hb); clear HB; have HO275 := n0_; have HB := n1_; clear n0_ n1_; (try clear hb); (try clear hb2); (try clear hk); (try clear hi); (try clear ho0)))
                                go_ret
                                exact ⟨by first | rfl | (simp [errW_none, errW_some] <;> rfl) | (simp [*, errW_none, errW_some] <;> rfl), by repeat (first | (with_reducible first | exact HB.out | apply below_alloc | apply pw_below_drewN | apply below_drew1) | exact HB.out)⟩
                              · replace c61 := Bool.eq_false_iff.mpr c61
                                subst c61
                                have H1 : (some false) = some r := by rw [if_neg (show ¬ (false = true) by decide)] at H; exact H
                                clear H
                                have H := H1
                                clear H1
                                obtain rfl := Option.some.inj H
                                go_wp2_with (first | ((with_reducible refine gate_callee (f := 23) rfl ?_); refine goesL_ (some 101) rfl rfl Try.func23 (by kernel_rfl) rfl #[.slice none 0 0, .string a2] rfl (by (try simp only [List.map_toArray, List.map_cons, List.map_nil]); first | done | rfl | (simp only [List.length_drop, List.length_take]; rfl)) ?_; (refine (eval_Find.calls kj29 _ _ ([] : List ByteArray) a2 t272 t273 _ ?side1 ?side2 ?side3 A60.out).mono ?_); (case side1 => first | exact GlobOk.below HG.out (by repeat (first | (with_reducible first | exact HB.out | apply below_alloc | apply pw_below_drewN | apply below_drew1) | exact HB.out)) | (repeat (first | exact HG.out | (with_reducible refine GlobOk.alloc ?_ _) | (with_reducible refine GlobOk.drewN ?_ _) | (with_reducible refine GlobOk.drew ?_)))); (case side2 => exact Kd.C_nil _ _); (case side3 => exact Nat.le_refl _); rintro e w63 ⟨v274, rfl, ho0, hb⟩; refine ⟨_, rfl, ?_⟩; have n0_ := Aside0.mk (Kd.R_lower ho0 (below_size (by repeat (first | (with_reducible first | exact HB.out | apply below_alloc | apply pw_below_drewN | apply below_drew1) | exact HB.out)))); have n1_ := Aside0.mk (below_step (by repeat (first | (with_reducible first | exact HB.out | apply below_alloc | apply pw_below_drewN | apply below_drew1) | exact HB.out)) hb); clear HB; have HO275 := n0_; have HB := n1_; clear n0_ n1_; (try clear hb); (try clear hb2); (try clear hk); (try clear hi); (try clear ho0)))
                                go_ret
                                exact ⟨by first | rfl | (simp [errW_none, errW_some] <;> rfl) | (simp [*, errW_none, errW_some] <;> rfl), by repeat (first | (with_reducible first | exact HB.out | apply below_alloc | apply pw_below_drewN | apply below_drew1) | exact HB.out)⟩
            · rw [if_neg c16] at H
              exact absurd H (by simp)
          · rw [if_neg c15] at H
            exact absurd H (by simp)
        · rw [if_neg c14] at H
          exact absurd H (by simp)

/-- THE ONE PURE STATEMENT of verbatimlaw20_EvalRows. -/
def verbatimlaw20_EvalRows.Pure : Prop := ∀ (l0 : List ByteArray) (l1 : List ByteArray) (a2 : ByteArray) (a3 : ByteArray), (l0.length ≤ 8796093021952 ∧ ∀ x_ ∈ l0, x_.size ≤ 140737488351232) → (l1.length ≤ 8796093021952 ∧ ∀ x_ ∈ l1, x_.size ≤ 140737488351232) → a2.size ≤ 140737488351232 → a3.size ≤ 140737488351232 → ∃ k, verbatimlaw20_EvalRows.f k l0 l1 a2 a3 = some true

end Go.Proofs.Ytbbgnapepkenaaa.E
