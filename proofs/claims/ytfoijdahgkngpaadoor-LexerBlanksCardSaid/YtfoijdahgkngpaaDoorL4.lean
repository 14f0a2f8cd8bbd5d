-- Written for this claim by a program of this session (over the kit's print tool): functions as Lean functions, their contracts, rows. Lean checks it.
import Derived.Test.YtfoijdahgkngpaaDoorL0
import Derived.Test.YtfoijdahgkngpaaDoorL3
namespace Go.Proofs.YtfoijdahgkngpaaDoor.L
open Go.RowKit Go.Proofs.YtfoijdahgkngpaaDoorW.PrintWords Go.Proofs.YtfoijdahgkngpaaDoorW.PrintLast Go.Proofs.YtfoijdahgkngpaaDoorW.PrintMore
attribute [local go_sem] max2_int min2_int max_two min_two max_three min_three max_four min_four   -- for this text's walks alone
set_option linter.unusedVariables false
set_option linter.unusedSimpArgs false

/-! ### lexer_Quote: function 13 -/
mutual
def lexer_Quote.l0 : Nat → List Int → List Int → Int → Int → Option (ByteArray)
  | 0, _, _, _, _ => none
  | k + 1, x3, x8, x9, x10 => if x10 < x9 then (if 0 ≤ x10 then (if x10 < (x8.length : Int) then (if (rd x8 x10) = 34 then (lexer_Quote.j1 k x3 (rd x8 x10) x8 x9 x10 ((rd x8 x10) == 34)) else (lexer_Quote.j1 k x3 (rd x8 x10) x8 x9 x10 ((rd x8 x10) == 92))) else (none)) else (none)) else (if x3.length < 140737488355328 then (some (strOfNums (x3 ++ [34]))) else (none))
def lexer_Quote.j1 : Nat → List Int → Int → List Int → Int → Int → Bool → Option (ByteArray)
  | 0, _, _, _, _, _, _ => none
  | k + 1, x3, x5, x8, x9, x10, x18 => if x18 = true then ((some (([92, x5] : List Int) : List Int)).bind fun y143 => (if x3.length + y143.length < 140737488355328 then (lexer_Quote.l0 k (x3 ++ y143) x8 x9 (wrap64 (x10 + 1))) else (none))) else (if x5 < 32 then (if 0 ≤ (x5 / 16) then (if (x5 / 16) < 16 then (if 0 ≤ (Go.bits .and .u8 x5 15) then (if (Go.bits .and .u8 x5 15) < 16 then ((some (([92, 120, bt (⟨#[48, 49, 50, 51, 52, 53, 54, 55, 56, 57, 97, 98, 99, 100, 101, 102]⟩ : ByteArray) (x5 / 16), bt (⟨#[48, 49, 50, 51, 52, 53, 54, 55, 56, 57, 97, 98, 99, 100, 101, 102]⟩ : ByteArray) (Go.bits .and .u8 x5 15)] : List Int) : List Int)).bind fun y149 => (if x3.length + y149.length < 140737488355328 then (lexer_Quote.l0 k (x3 ++ y149) x8 x9 (wrap64 (x10 + 1))) else (none))) else (none)) else (none)) else (none)) else (none)) else (if x5 > 126 then (if 0 ≤ (x5 / 16) then (if (x5 / 16) < 16 then (if 0 ≤ (Go.bits .and .u8 x5 15) then (if (Go.bits .and .u8 x5 15) < 16 then ((some (([92, 120, bt (⟨#[48, 49, 50, 51, 52, 53, 54, 55, 56, 57, 97, 98, 99, 100, 101, 102]⟩ : ByteArray) (x5 / 16), bt (⟨#[48, 49, 50, 51, 52, 53, 54, 55, 56, 57, 97, 98, 99, 100, 101, 102]⟩ : ByteArray) (Go.bits .and .u8 x5 15)] : List Int) : List Int)).bind fun y155 => (if x3.length + y155.length < 140737488355328 then (lexer_Quote.l0 k (x3 ++ y155) x8 x9 (wrap64 (x10 + 1))) else (none))) else (none)) else (none)) else (none)) else (none)) else (if x3.length < 140737488355328 then (lexer_Quote.l0 k (x3 ++ [x5]) x8 x9 (wrap64 (x10 + 1))) else (none))))
end
def lexer_Quote.f (k : Nat) (a0 : ByteArray) : Option (ByteArray) := if a0.size ≤ 140737488355328 then ((some (bytesOf a0 : List Int)).bind fun y136 => (lexer_Quote.l0 k (([34] : List Int)) y136 (y136.length : Int) 0)) else (none)
theorem lexer_Quote.mono_l : ∀ k, (∀ y0 y1 y2 y3, LeO (lexer_Quote.l0 k y0 y1 y2 y3) (lexer_Quote.l0 (k + 1) y0 y1 y2 y3)) ∧ (∀ y0 y1 y2 y3 y4 y5, LeO (lexer_Quote.j1 k y0 y1 y2 y3 y4 y5) (lexer_Quote.j1 (k + 1) y0 y1 y2 y3 y4 y5))
  | 0 => ⟨fun _ _ _ _ r h => by simp [lexer_Quote.l0] at h, fun _ _ _ _ _ _ r h => by simp [lexer_Quote.j1] at h⟩
  | k + 1 => by
    obtain ⟨ih0, ih1⟩ := lexer_Quote.mono_l k
    refine ⟨?_, ?_⟩
    · intro y0 y1 y2 y3
      unfold lexer_Quote.l0
      repeat' first
      | (with_reducible exact ih0 _ _ _ _)
      | (with_reducible exact ih1 _ _ _ _ _ _)
      | (with_reducible exact LeO.refl _)
      | (with_reducible exact LeO.none _)
      | (with_reducible refine LeO.ite ?_ ?_)
      | (with_reducible refine LeO.bind ?_ (fun _ => ?_))
      | exact ih0 _ _ _ _
      | exact ih1 _ _ _ _ _ _
      | exact LeO.none _
      | refine LeO.ite ?_ ?_
      | refine LeO.bind ?_ (fun _ => ?_)
    · intro y0 y1 y2 y3 y4 y5
      unfold lexer_Quote.j1
      repeat' first
      | (with_reducible exact ih0 _ _ _ _)
      | (with_reducible exact ih1 _ _ _ _ _ _)
      | (with_reducible exact LeO.refl _)
      | (with_reducible exact LeO.none _)
      | (with_reducible refine LeO.ite ?_ ?_)
      | (with_reducible refine LeO.bind ?_ (fun _ => ?_))
      | exact ih0 _ _ _ _
      | exact ih1 _ _ _ _ _ _
      | exact LeO.none _
      | refine LeO.ite ?_ ?_
      | refine LeO.bind ?_ (fun _ => ?_)
theorem lexer_Quote.mono : ∀ a0 k, LeO (lexer_Quote.f k a0) (lexer_Quote.f (k + 1) a0) := by
  intro a0 k
  obtain ⟨ih0, ih1⟩ := lexer_Quote.mono_l k
  unfold lexer_Quote.f
  repeat' first
      | (with_reducible exact ih0 _ _ _ _)
      | (with_reducible exact ih1 _ _ _ _ _ _)
      | (with_reducible exact LeO.refl _)
      | (with_reducible exact LeO.none _)
      | (with_reducible refine LeO.ite ?_ ?_)
      | (with_reducible refine LeO.bind ?_ (fun _ => ?_))
      | exact ih0 _ _ _ _
      | exact ih1 _ _ _ _ _ _
      | exact LeO.none _
      | refine LeO.ite ?_ ?_
      | refine LeO.bind ?_ (fun _ => ?_)
def lexer_Quote.T11 : Bool × List (List Nat × List Nat) := (true, [([], []), ([], []), ([1], [1]), ([2], [2]), ([], []), ([4], [4]), ([5], [5]), ([3, 6], [3, 6]), ([0, 7], [0, 7]), ([8, 8, 0, 1, 2, 3, 4, 5, 6, 7, 8], [0, 8])])
def lexer_Quote.B11 : List Nat := [0, 0, 2, 6, 0, 16, 48, 126, 255, 511]
theorem lexer_Quote.tab11 : rtab .any (opsOf Tryd.f13 11) = lexer_Quote.T11 := by kernel_rfl
theorem lexer_Quote.bits11 : waitsOk lexer_Quote.T11.2 lexer_Quote.B11 = true := by kernel_rfl
set_option maxHeartbeats 8000000 in
set_option maxRecDepth 100000 in
theorem lexer_Quote.calls (k : Nat) (a0 : ByteArray) (r : ByteArray) (w : World) (h : lexer_Quote.f k a0 = some r) :
    Calls Tryd.prog 13 #[.string a0] w fun e w' => e = .returned (.string r) ∧ Below w.heap.size w w' := by
  have HB := Aside0.mk (Below.refl w.heap.size w)
  have H : (if a0.size ≤ 140737488355328 then ((some (bytesOf a0 : List Int)).bind fun y136 => (lexer_Quote.l0 k (([34] : List Int)) y136 (y136.length : Int) 0)) else (none)) = some r := h
  clear h
  obtain ⟨y133, hy133⟩ : ∃ y_ : List Int, y_ = (([34] : List Int)) := ⟨_, rfl⟩
  replace H : (if a0.size ≤ 140737488355328 then ((some (bytesOf a0 : List Int)).bind fun y136 => (lexer_Quote.l0 k y133 y136 (y136.length : Int) 0)) else (none)) = some r := by first | (rw [hy133]; with_reducible exact H) | (have H2_ := (Option.bind_some _ _).symm.trans H; rw [hy133]; with_reducible exact H2_) | (have H2_ := (Option.bind_some _ _).symm.trans H; with_reducible exact H2_) | with_reducible exact H | (rw [hy133]; exact H) | exact H
  have Ny133 := Aside0.mk hy133
  clear hy133
  by_cases c2 : a0.size ≤ 140737488355328
  · rw [if_pos c2] at H
    have c2b0 := eq_true c2
    have c2b1 : decide (a0.size ≤ 140737488355328) = true := decide_eq_true c2
    clear c2
    obtain ⟨y136, hy136⟩ : ∃ y_ : List Int, y_ = (bytesOf a0) := ⟨_, rfl⟩
    replace H : (lexer_Quote.l0 k y133 y136 (y136.length : Int) 0) = some r := by first | (rw [hy136]; with_reducible exact H) | (have H2_ := (Option.bind_some _ _).symm.trans H; rw [hy136]; with_reducible exact H2_) | (have H2_ := (Option.bind_some _ _).symm.trans H; with_reducible exact H2_) | with_reducible exact H | (rw [hy136]; exact H) | exact H
    have Ny136 := Aside0.mk hy136
    clear hy136
    have H' := Aside0.mk H
    clear H
    go_enter Tryd.func13, Tryd.ntmps13
    go_wp2_with (first | ((with_reducible refine gate_dst (N := 6) rfl ?_); refine Kd.R_lit (Kd.int .u8) _ 5 ?hg (N := 6) ?hd (xs := ([34] : List Int)) (inner := [.int .u8 34]) (ok := fun _ => True) (okp := fun _ => True) ?hr ?hp (fun _ hk => hk) trivial (Below.refl _ _) (Nat.le_refl _) (by simp) ?_; (case hd => rfl); (case hg => rfl); (case hr => first | (go_simp; done) | (go_simp; rfl)); (case hp => exact (Reps.one (show Kd.M (Kd.int .u8) _ _ _ 34 [.int .u8 34] from rfl) (Reps.none _ _))); intro v134 w3 ho4 hb hg_ hnew_; clear hg_ hnew_; (first | rw [← Ny133.out] at ho4 | (simp only [Int.reduceToNat] at ho4; rw [← Ny133.out] at ho4)); have n0_ := Aside0.mk (Kd.R_lower ho4 (below_size (by repeat (first | (with_reducible first | exact HB.out | apply below_alloc | apply pw_below_drewN | apply below_drew1) | exact HB.out)))); have n1_ := Aside0.mk (below_step (by repeat (first | (with_reducible first | exact HB.out | apply below_alloc | apply pw_below_drewN | apply below_drew1) | exact HB.out)) hb); clear HB; have HO135 := n0_; have HB := n1_; clear n0_ n1_; clear hb ho4) | ((with_reducible refine gate_dst (N := 8) rfl ?_); refine Kd.V_bytes _ 5 rfl (N := 8) rfl 9 37 _ rfl a0 rfl Tryd.underlying9 Tryd.underlying37 Tryd.underlying5 (of_decide_eq_true (by first | (with_reducible assumption) | assumption)) (Below.refl _ _) (Nat.le_refl _) ?_; intro v137 w5 ho6 hb hg_ hnew_; clear hg_ hnew_; (first | rw [← Ny136.out] at ho6 | (simp only [Int.reduceToNat] at ho6; rw [← Ny136.out] at ho6)); have n0_ := Aside0.mk (Kd.R_below (by (with_reducible repeat (first | apply Kd.R_alloc | apply Kd.R_drewN | apply Kd.R_drew)); exact HO135.out) hb); have n1_ := Aside0.mk (Kd.V_lower (Kd.V_mono (ok' := fun k_ => some k_ ≠ (v134 : Value).ownBlock) ho6 (fun k_ hk_ => (Kd.fresh' (Kd.R_lt (by (with_reducible repeat (first | apply Kd.R_alloc | apply Kd.R_drewN | apply Kd.R_drew)); exact HO135.out)) k_ hk_))) (below_size (by repeat (first | (with_reducible first | exact HB.out | apply below_alloc | apply pw_below_drewN | apply below_drew1) | exact HB.out)))); have n2_ := Aside0.mk (below_step (by repeat (first | (with_reducible first | exact HB.out | apply below_alloc | apply pw_below_drewN | apply below_drew1) | exact HB.out)) hb); clear HO135; clear HB; have HO135 := n0_; have HO138 := n1_; have HB := n2_; clear n0_ n1_ n2_; clear hb ho6; obtain ⟨Ao7, co7, eo7⟩ := Kd.V_slice HO138.out; subst eo7))
    go_loopg [3, 10] k (fun kq v3 v10 w' => ∃ (x3_1 : List Int) (x10_1 : Int), v10 = .int .i64 x10_1 ∧ Aside0 (lexer_Quote.l0 kq x3_1 y136 (y136.length : Int) x10_1 = some r) ∧ Aside0 (kq ≤ k) ∧ Aside0 (Kd.R (Kd.int .u8) 5 w' w.heap.size (fun _ => True) v3 x3_1) ∧ Aside0 (Kd.V (Kd.int .u8) 5 w' w.heap.size (fun k_ => some k_ ≠ (v3 : Value).ownBlock) (.slice Ao7 y136.length co7) y136) ∧ Aside0 (Below w.heap.size w w'))
    case atStart => exact ⟨(y133), (0), (by first | rfl | (simp; done) | (simp [*]; done)), H', ⟨Nat.le_refl _⟩, ⟨by (with_reducible repeat (first | apply Kd.R_alloc | apply Kd.R_drewN | apply Kd.R_drew)); exact HO135.out⟩, ⟨by (with_reducible repeat (first | apply Kd.V_alloc | apply Kd.V_drewN | apply Kd.V_drew)); exact HO138.out⟩, ⟨by repeat (first | (with_reducible first | exact HB.out | apply below_alloc | apply pw_below_drewN | apply below_drew1) | exact HB.out)⟩⟩
    case round =>
      clear H'
      try clear c1
      try clear c2
      try clear c2b0
      try clear c2b1
      try clear p2
      obtain ⟨x3_1, x10_1, rfl, HA, HK1, HO_3, HO_8, HB⟩ := hrel
      cases gk with
      | zero => exact absurd HA.out (by simp [lexer_Quote.l0])
      | succ k1 =>
        have H := HA.out
        clear HA
        simp only [lexer_Quote.l0] at H
        by_cases c8 : x10_1 < (y136.length : Int)
        · rw [if_pos c8] at H
          have c8b0 : decide (x10_1 < (y136.length : Int)) = true := decide_eq_true c8
          clear c8
          by_cases c9 : 0 ≤ x10_1
          · rw [if_pos c9] at H
            have c9b0 : decide (0 ≤ x10_1) = true := decide_eq_true c9
            clear c9
            by_cases c10 : x10_1 < (y136.length : Int)
            · rw [if_pos c10] at H
              have c10b0 : decide (x10_1 < (y136.length : Int)) = true := decide_eq_true c10
              clear c10
              have HC11 := Aside0.mk H
              clear H
              have p142 : 0 ≤ (x10_1 : Int) := of_decide_eq_true (by first | (with_reducible assumption) | assumption)
              have q142 : x10_1 < (y136.length : Int) := of_decide_eq_true (by first | (with_reducible assumption) | assumption)
              obtain ⟨ad142, e142, hx142_0⟩ := Kd.at_int (Kd.V_reads' HO_8.out).2.2 x10_1 p142 q142
              cases e142
              replace p142 := eq_true p142
              replace q142 := eq_true q142
              go_upto_if 18 with (fail)
              go_cut [18] (fun v18 wc => ∃ (kq : Nat) (x18_10 : Bool), v18 = .bool x18_10 ∧ Aside0 (lexer_Quote.j1 kq x3_1 (rd y136 x10_1) y136 (y136.length : Int) x10_1 x18_10 = some r) ∧ Aside0 (kq ≤ k1) ∧ Aside0 (Kd.R (Kd.int .u8) 5 wc w.heap.size (fun _ => True) u3 x3_1) ∧ Aside0 (Kd.V (Kd.int .u8) 5 wc w.heap.size (fun k_ => some k_ ≠ (u3 : Value).ownBlock) (.slice (some ad142) y136.length co7) y136) ∧ Aside0 (Below w.heap.size w wc))
              case first =>
                have H := HC11.out
                clear HC11
                by_cases c12 : (rd y136 x10_1) = 34
                · rw [if_pos c12] at H
                  have c12b0 : ((rd y136 x10_1) == 34) = true := beq_iff_eq.mpr c12
                  have c12b1 : ((rd y136 x10_1) != 34) = false := bne_eq_false_iff_eq.mpr c12
                  clear c12
                  (first | rw [c12b0] | (simp only [i64_w, i32_w]; rw [c12b0]) | skip)
                  as_aux_lemma =>
                    have H' := Aside0.mk H
                    clear H
                    go_wp2
                    go_meet
                    case rel => exact ⟨_, (((rd y136 x10_1) == 34)), (by first | rfl | (simp; done) | (simp [*]; done)), H', ⟨by have := HK1.out; first | omega | exact Nat.le_refl _⟩, ⟨by (with_reducible repeat (first | apply Kd.R_alloc | apply Kd.R_drewN | apply Kd.R_drew)); exact HO_3.out⟩, ⟨by (with_reducible repeat (first | apply Kd.V_alloc | apply Kd.V_drewN | apply Kd.V_drew)); exact HO_8.out⟩, ⟨by repeat (first | (with_reducible first | exact HB.out | apply below_alloc | apply pw_below_drewN | apply below_drew1) | exact HB.out)⟩⟩
                · rw [if_neg c12] at H
                  have c12b0 : ((rd y136 x10_1) == 34) = false := beq_eq_false_iff_ne.mpr c12
                  have c12b1 : ((rd y136 x10_1) != 34) = true := bne_iff_ne.mpr c12
                  (first | rw [c12b0] | (simp only [i64_w, i32_w]; rw [c12b0]) | skip)
                  as_aux_lemma =>
                    have H' := Aside0.mk H
                    clear H
                    go_wp2
                    go_meet
                    case rel => exact ⟨_, (((rd y136 x10_1) == 92)), (by first | rfl | (simp; done) | (simp [*]; done)), H', ⟨by have := HK1.out; first | omega | exact Nat.le_refl _⟩, ⟨by (with_reducible repeat (first | apply Kd.R_alloc | apply Kd.R_drewN | apply Kd.R_drew)); exact HO_3.out⟩, ⟨by (with_reducible repeat (first | apply Kd.V_alloc | apply Kd.V_drewN | apply Kd.V_drew)); exact HO_8.out⟩, ⟨by repeat (first | (with_reducible first | exact HB.out | apply below_alloc | apply pw_below_drewN | apply below_drew1) | exact HB.out)⟩⟩
              case rest =>
                clear HC11
                try clear c1
                try clear p1
                try clear q1
                try clear hx1
                try clear c2
                try clear c2b0
                try clear c2b1
                try clear p2
                try clear c8
                try clear c8b0
                try clear c9
                try clear c9b0
                try clear c10
                try clear c10b0
                try clear c12
                try clear c12b0
                try clear c12b1
                try clear hx142_0
                try clear p142
                try clear p2
                try clear q142
                obtain ⟨kq, x18_10, rfl, HA, HJ10, HO_3, HO_8, HB⟩ := hcut
                cases kq with
                | zero => exact absurd HA.out (by simp [lexer_Quote.j1])
                | succ kj10 =>
                  have H := HA.out
                  clear HA
                  simp only [lexer_Quote.j1] at H
                  by_cases c13 : x18_10 = true
                  · subst c13
                    have H1 : ((some (([92, (rd y136 x10_1)] : List Int) : List Int)).bind fun y143 => (if x3_1.length + y143.length < 140737488355328 then (lexer_Quote.l0 kj10 (x3_1 ++ y143) y136 (y136.length : Int) (wrap64 (x10_1 + 1))) else (none))) = some r := by rw [if_pos rfl] at H; exact H
                    clear H
                    have H := H1
                    clear H1
                    obtain ⟨y143, hy143⟩ : ∃ y_ : List Int, y_ = (([92, (rd y136 x10_1)] : List Int)) := ⟨_, rfl⟩
                    replace H : (if x3_1.length + y143.length < 140737488355328 then (lexer_Quote.l0 kj10 (x3_1 ++ y143) y136 (y136.length : Int) (wrap64 (x10_1 + 1))) else (none)) = some r := by first | (rw [hy143]; with_reducible exact H) | (have H2_ := (Option.bind_some _ _).symm.trans H; rw [hy143]; with_reducible exact H2_) | (have H2_ := (Option.bind_some _ _).symm.trans H; with_reducible exact H2_) | with_reducible exact H | (rw [hy143]; exact H) | exact H
                    have Ny143 := Aside0.mk hy143
                    clear hy143
                    by_cases c14 : x3_1.length + y143.length < 140737488355328
                    · rw [if_pos c14] at H
                      have LMc14 := Aside0.mk c14
                      clear c14
                      obtain ⟨y146, hy146⟩ : ∃ y_ : List Int, y_ = (x3_1 ++ y143) := ⟨_, rfl⟩
                      replace H : (lexer_Quote.l0 kj10 y146 y136 (y136.length : Int) (wrap64 (x10_1 + 1))) = some r := by first | (rw [hy146]; with_reducible exact H) | (have H2_ := (Option.bind_some _ _).symm.trans H; rw [hy146]; with_reducible exact H2_) | (have H2_ := (Option.bind_some _ _).symm.trans H; with_reducible exact H2_) | with_reducible exact H | (rw [hy146]; exact H) | exact H
                      have Ny146 := Aside0.mk hy146
                      clear hy146
                      as_aux_lemma =>
                        have H' := Aside0.mk H
                        clear H
                        go_wp2_with (first | ((with_reducible refine gate_dst (N := 25) rfl ?_); refine Kd.R_lit (Kd.int .u8) _ 5 ?hg (N := 25) ?hd (xs := ([92, (rd y136 x10_1)] : List Int)) (inner := [.int .u8 92, .int .u8 (rd y136 x10_1)]) (ok := fun _ => True) (okp := fun _ => True) ?hr ?hp (fun _ hk => hk) trivial (Below.refl _ _) (Nat.le_refl _) (by simp) ?_; (case hd => rfl); (case hg => rfl); (case hr => first | (go_simp; done) | (go_simp; rfl)); (case hp => exact (Reps.one (show Kd.M (Kd.int .u8) _ _ _ 92 [.int .u8 92] from rfl) (Reps.one (show Kd.M (Kd.int .u8) _ _ _ (rd y136 x10_1) [.int .u8 (rd y136 x10_1)] from rfl) (Reps.none _ _)))); intro v144 w15 ho16 hb hg_ hnew_; clear hg_ hnew_; (first | rw [← Ny143.out] at ho16 | (simp only [Int.reduceToNat] at ho16; rw [← Ny143.out] at ho16)); have n0_ := Aside0.mk (Kd.R_elder' (by (with_reducible repeat (first | apply Kd.R_alloc | apply Kd.R_drewN | apply Kd.R_drew)); exact HO_3.out) (Kd.R_base ho16) hb); have n1_ := Aside0.mk (Kd.V_elder' (by (with_reducible repeat (first | apply Kd.V_alloc | apply Kd.V_drewN | apply Kd.V_drew)); exact HO_8.out) (Kd.R_base ho16) hb); have n2_ := Aside0.mk (Kd.R_lower (Kd.R_new' ho16 (Kd.R_lt (by (with_reducible repeat (first | apply Kd.R_alloc | apply Kd.R_drewN | apply Kd.R_drew)); exact HO_3.out))) (below_size (by repeat (first | (with_reducible first | exact HB.out | apply below_alloc | apply pw_below_drewN | apply below_drew1) | exact HB.out)))); have n3_ := Aside0.mk (below_step (by repeat (first | (with_reducible first | exact HB.out | apply below_alloc | apply pw_below_drewN | apply below_drew1) | exact HB.out)) hb); clear HO_3; clear HO_8; clear HB; have HO_3 := n0_; have HO_8 := n1_; have HO145 := n2_; have HB := n3_; clear n0_ n1_ n2_ n3_; clear hb ho16; obtain ⟨Ao18, co18, eo18⟩ := Kd.R_slice HO145.out; subst eo18) | ((with_reducible refine gate_builtin (b := .append) (xs := #[.tmp 23, .tmp 25]) rfl ?_); at_builtin; refine Kd.R_append_rows (Kd.int .u8) (w0 := w) w.heap.size rfl (.tmp 23) (.tmp 25) 37 5 (.int .u8 0) 1 rfl Tryd.underlying37 info5 rfl (by decide) (by omega) u3 x3_1 y143 _ _ _ (fun k_ => some k_ ≠ (.slice Ao18 y143.length co18 : Value).ownBlock) (fun _ => False) rfl rfl ?aO ?aR (fun _ _ h => h) (fun _ h => h.elim) ?aF ?aB ?aS ?aL ?_; (case aR => repeat (first | exact (Kd.R_reads' HO145.out).2.2 | (with_reducible refine Kd.C_alloc ?_ _) | (with_reducible refine Kd.C_drewN ?_ _) | (with_reducible refine Kd.C_drew ?_))); (case aB => exact (by repeat (first | (with_reducible first | exact HB.out | apply below_alloc | apply pw_below_drewN | apply below_drew1) | exact HB.out))); (case aF => exact (fun k_ hk => Kd.fresh' (Kd.R_lt (by (with_reducible repeat (first | apply Kd.R_alloc | apply Kd.R_drewN | apply Kd.R_drew)); exact HO145.out)) k_ hk)); (case aO => exact (by (with_reducible repeat (first | apply Kd.R_alloc | apply Kd.R_drewN | apply Kd.R_drew)); exact Kd.R_mono HO_3.out (fun _ hk => hk.2))); (case aS => exact (below_size (by repeat (first | (with_reducible first | exact HB.out | apply below_alloc | apply pw_below_drewN | apply below_drew1) | exact HB.out)))); (case aL => have := LMc14.out; omega); intro v147 w17 ho hb hg hat; rw [← Ny146.out] at ho; have n0_ := Aside0.mk (Kd.V_afterv (ok := (fun k_ => some k_ ≠ (.slice Ao18 y143.length co18 : Value).ownBlock)) (by (with_reducible repeat (first | apply Kd.V_alloc | apply Kd.V_drewN | apply Kd.V_drew)); exact Kd.V_mono HO_8.out (fun _ hk => ⟨hk.2, hk.1⟩)) hg hat); have n1_ := Aside0.mk (Kd.R_after (ok := (fun _ => True)) (by (with_reducible repeat (first | apply Kd.R_alloc | apply Kd.R_drewN | apply Kd.R_drew)); exact HO145.out) hg hat); have n2_ := Aside0.mk (hb); have n3_ := Aside0.mk (ho); clear HO_8; clear HO145; clear HB; clear HO_3; have HO_8 := n0_; have HO145 := n1_; have HB := n2_; have HO148 := n3_; clear n0_ n1_ n2_ n3_; clear ho hb hg hat))
                        go_roundg kj10
                        case measure => have := HK1.out; have := HJ10.out; omega
                        case rel => exact ⟨(y146), (wrap64 (x10_1 + 1)), (by first | rfl | (simp; done) | (simp [*]; done)), H', ⟨by have := HK1.out; have := HJ10.out; omega⟩, ⟨by (with_reducible repeat (first | apply Kd.R_alloc | apply Kd.R_drewN | apply Kd.R_drew)); exact Kd.R_mono HO148.out (fun _ hk => trivial)⟩, ⟨by (with_reducible repeat (first | apply Kd.V_alloc | apply Kd.V_drewN | apply Kd.V_drew)); exact Kd.V_mono HO_8.out (fun _ hk => hk.2)⟩, ⟨by repeat (first | (with_reducible first | exact HB.out | apply below_alloc | apply pw_below_drewN | apply below_drew1) | exact HB.out)⟩⟩
                    · rw [if_neg c14] at H
                      exact absurd H (by simp)
                  · replace c13 := Bool.eq_false_iff.mpr c13
                    subst c13
                    have H1 : (if (rd y136 x10_1) < 32 then (if 0 ≤ ((rd y136 x10_1) / 16) then (if ((rd y136 x10_1) / 16) < 16 then (if 0 ≤ (Go.bits .and .u8 (rd y136 x10_1) 15) then (if (Go.bits .and .u8 (rd y136 x10_1) 15) < 16 then ((some (([92, 120, bt (⟨#[48, 49, 50, 51, 52, 53, 54, 55, 56, 57, 97, 98, 99, 100, 101, 102]⟩ : ByteArray) ((rd y136 x10_1) / 16), bt (⟨#[48, 49, 50, 51, 52, 53, 54, 55, 56, 57, 97, 98, 99, 100, 101, 102]⟩ : ByteArray) (Go.bits .and .u8 (rd y136 x10_1) 15)] : List Int) : List Int)).bind fun y149 => (if x3_1.length + y149.length < 140737488355328 then (lexer_Quote.l0 kj10 (x3_1 ++ y149) y136 (y136.length : Int) (wrap64 (x10_1 + 1))) else (none))) else (none)) else (none)) else (none)) else (none)) else (if (rd y136 x10_1) > 126 then (if 0 ≤ ((rd y136 x10_1) / 16) then (if ((rd y136 x10_1) / 16) < 16 then (if 0 ≤ (Go.bits .and .u8 (rd y136 x10_1) 15) then (if (Go.bits .and .u8 (rd y136 x10_1) 15) < 16 then ((some (([92, 120, bt (⟨#[48, 49, 50, 51, 52, 53, 54, 55, 56, 57, 97, 98, 99, 100, 101, 102]⟩ : ByteArray) ((rd y136 x10_1) / 16), bt (⟨#[48, 49, 50, 51, 52, 53, 54, 55, 56, 57, 97, 98, 99, 100, 101, 102]⟩ : ByteArray) (Go.bits .and .u8 (rd y136 x10_1) 15)] : List Int) : List Int)).bind fun y155 => (if x3_1.length + y155.length < 140737488355328 then (lexer_Quote.l0 kj10 (x3_1 ++ y155) y136 (y136.length : Int) (wrap64 (x10_1 + 1))) else (none))) else (none)) else (none)) else (none)) else (none)) else (if x3_1.length < 140737488355328 then (lexer_Quote.l0 kj10 (x3_1 ++ [(rd y136 x10_1)]) y136 (y136.length : Int) (wrap64 (x10_1 + 1))) else (none)))) = some r := by rw [if_neg (show ¬ (false = true) by decide)] at H; exact H
                    clear H
                    have H := H1
                    clear H1
                    by_cases c19 : (rd y136 x10_1) < 32
                    · rw [if_pos c19] at H
                      have c19b0 : decide ((rd y136 x10_1) < 32) = true := decide_eq_true c19
                      clear c19
                      obtain ⟨ji20, hji20⟩ : ∃ j_ : Int, ((rd y136 x10_1) / 16) = j_ := ⟨_, rfl⟩
                      replace H : (if 0 ≤ (ji20) then (if (ji20) < 16 then (if 0 ≤ (Go.bits .and .u8 (rd y136 x10_1) 15) then (if (Go.bits .and .u8 (rd y136 x10_1) 15) < 16 then ((some (([92, 120, bt (⟨#[48, 49, 50, 51, 52, 53, 54, 55, 56, 57, 97, 98, 99, 100, 101, 102]⟩ : ByteArray) (ji20), bt (⟨#[48, 49, 50, 51, 52, 53, 54, 55, 56, 57, 97, 98, 99, 100, 101, 102]⟩ : ByteArray) (Go.bits .and .u8 (rd y136 x10_1) 15)] : List Int) : List Int)).bind fun y149 => (if x3_1.length + y149.length < 140737488355328 then (lexer_Quote.l0 kj10 (x3_1 ++ y149) y136 (y136.length : Int) (wrap64 (x10_1 + 1))) else (none))) else (none)) else (none)) else (none)) else (none)) = some r := by first | (rw [hji20] at H; exact H) | (simp only [hji20] at H ⊢; exact H)
                      by_cases c21 : 0 ≤ (ji20)
                      · rw [if_pos c21] at H
                        have c21b0 : decide (0 ≤ (ji20)) = true := decide_eq_true c21
                        clear c21
                        by_cases c22 : (ji20) < 16
                        · rw [if_pos c22] at H
                          have c22b0 : decide ((ji20) < 16) = true := decide_eq_true c22
                          clear c22
                          by_cases c24 : 0 ≤ (Go.bits .and .u8 (rd y136 x10_1) 15)
                          · rw [if_pos c24] at H
                            have c24b0 : decide (0 ≤ (Go.bits .and .u8 (rd y136 x10_1) 15)) = true := decide_eq_true c24
                            clear c24
                            by_cases c25 : (Go.bits .and .u8 (rd y136 x10_1) 15) < 16
                            · rw [if_pos c25] at H
                              have c25b0 : decide ((Go.bits .and .u8 (rd y136 x10_1) 15) < 16) = true := decide_eq_true c25
                              clear c25
                              obtain ⟨y149, hy149⟩ : ∃ y_ : List Int, y_ = (([92, 120, bt (⟨#[48, 49, 50, 51, 52, 53, 54, 55, 56, 57, 97, 98, 99, 100, 101, 102]⟩ : ByteArray) (ji20), bt (⟨#[48, 49, 50, 51, 52, 53, 54, 55, 56, 57, 97, 98, 99, 100, 101, 102]⟩ : ByteArray) (Go.bits .and .u8 (rd y136 x10_1) 15)] : List Int)) := ⟨_, rfl⟩
                              replace H : (if x3_1.length + y149.length < 140737488355328 then (lexer_Quote.l0 kj10 (x3_1 ++ y149) y136 (y136.length : Int) (wrap64 (x10_1 + 1))) else (none)) = some r := by first | (rw [hy149]; with_reducible exact H) | (have H2_ := (Option.bind_some _ _).symm.trans H; rw [hy149]; with_reducible exact H2_) | (have H2_ := (Option.bind_some _ _).symm.trans H; with_reducible exact H2_) | with_reducible exact H | (rw [hy149]; exact H) | exact H
                              have Ny149 := Aside0.mk hy149
                              clear hy149
                              by_cases c27 : x3_1.length + y149.length < 140737488355328
                              · rw [if_pos c27] at H
                                have LMc27 := Aside0.mk c27
                                clear c27
                                obtain ⟨y152, hy152⟩ : ∃ y_ : List Int, y_ = (x3_1 ++ y149) := ⟨_, rfl⟩
                                replace H : (lexer_Quote.l0 kj10 y152 y136 (y136.length : Int) (wrap64 (x10_1 + 1))) = some r := by first | (rw [hy152]; with_reducible exact H) | (have H2_ := (Option.bind_some _ _).symm.trans H; rw [hy152]; with_reducible exact H2_) | (have H2_ := (Option.bind_some _ _).symm.trans H; with_reducible exact H2_) | with_reducible exact H | (rw [hy152]; exact H) | exact H
                                have Ny152 := Aside0.mk hy152
                                clear hy152
                                as_aux_lemma =>
                                  have H' := Aside0.mk H
                                  clear H
                                  try go_wp2
                                  have n0_ := Aside0.mk (Kd.R_drew HO_3.out)
                                  have n1_ := Aside0.mk (Kd.V_drew HO_8.out)
                                  have n2_ := Aside0.mk (below_drew1 HB.out)
                                  clear HO_3
                                  clear HO_8
                                  clear HB
                                  have HO_3 := n0_
                                  have HO_8 := n1_
                                  have HB := n2_
                                  clear n0_ n1_ n2_
                                  have p23 : 0 ≤ ((ji20) : Int) := of_decide_eq_true (by first | (with_reducible assumption) | assumption)
                                  have q23 : (ji20) < (16 : Int) := of_decide_eq_true (by first | (with_reducible assumption) | assumption)
                                  have hx23 := bt_at (⟨#[48, 49, 50, 51, 52, 53, 54, 55, 56, 57, 97, 98, 99, 100, 101, 102]⟩ : ByteArray) (ji20)
                                  replace p23 := eq_true p23
                                  replace q23 := eq_true q23
                                  have p26 : 0 ≤ ((Go.bits .and .u8 (rd y136 x10_1) 15) : Int) := of_decide_eq_true (by first | (with_reducible assumption) | assumption)
                                  have q26 : (Go.bits .and .u8 (rd y136 x10_1) 15) < (16 : Int) := of_decide_eq_true (by first | (with_reducible assumption) | assumption)
                                  have hx26 := bt_at (⟨#[48, 49, 50, 51, 52, 53, 54, 55, 56, 57, 97, 98, 99, 100, 101, 102]⟩ : ByteArray) (Go.bits .and .u8 (rd y136 x10_1) 15)
                                  replace p26 := eq_true p26
                                  replace q26 := eq_true q26
                                  refine start_ (n := 10) (S := fun w' => True) (ds := []) #[false, false, false, false, false, false, false, false, false, false] (by kernel_rfl) rfl rfl trivial (fun hHeld => ?_); refine with_tabW lexer_Quote.tab11 lexer_Quote.bits11 (fun HT_ HW_ => ?_)
                                  generalize wc.drew = w28 at HO_3 HO_8 HB hHeld ⊢
                                  refine pure_ (i := 0) (N := some 32) (v := ?_) (a' := ?_) #[true, false, false, false, false, false, false, false, false, false] rfl rfl (any_of HT_.out (by kernel_rfl)) (fun _ _ _ h => h) (Or.inl ⟨by rfl, ?_⟩) ?_ ?_
                                  rotate_left
                                  · intro w'
                                    go_simp
                                    with_reducible rfl
                                  rotate_left
                                  · simp only [Act.put, List.setIfInBounds_toArray, List.set_cons_zero, List.set_cons_succ, i64_w, i32_w]
                                    rfl
                                  refine pure_ (i := 1) (N := some 33) (v := ?_) (a' := ?_) #[true, true, false, false, false, false, false, false, false, false] rfl rfl (any_of HT_.out (by kernel_rfl)) (fun _ _ _ h => h) (Or.inl ⟨by rfl, ?_⟩) ?_ ?_
                                  rotate_left
                                  · intro w'
                                    go_simp
                                    with_reducible rfl
                                  rotate_left
                                  · simp only [Act.put, List.setIfInBounds_toArray, List.set_cons_zero, List.set_cons_succ, i64_w, i32_w]
                                    rfl
                                  refine pure_ (i := 2) (N := some 34) (v := ?_) (a' := ?_) #[true, true, true, false, false, false, false, false, false, false] rfl rfl (any_of HT_.out (by kernel_rfl)) (fun _ _ _ h => h) (Or.inl ⟨by rfl, ?_⟩) ?_ ?_
                                  rotate_left
                                  · intro w'
                                    go_simp
                                    with_reducible rfl
                                  rotate_left
                                  · simp only [Act.put, List.setIfInBounds_toArray, List.set_cons_zero, List.set_cons_succ, i64_w, i32_w]
                                    rfl
                                  refine pure_ (i := 4) (N := some 36) (v := ?_) (a' := ?_) #[true, true, true, false, true, false, false, false, false, false] rfl rfl (any_of HT_.out (by kernel_rfl)) (fun _ _ _ h => h) (Or.inl ⟨by rfl, ?_⟩) ?_ ?_
                                  rotate_left
                                  · intro w'
                                    go_simp
                                    with_reducible rfl
                                  rotate_left
                                  · simp only [Act.put, List.setIfInBounds_toArray, List.set_cons_zero, List.set_cons_succ, i64_w, i32_w]
                                    rfl
                                  refine pure_ (i := 5) (N := some 37) (v := ?_) (a' := ?_) #[true, true, true, false, true, true, false, false, false, false] rfl rfl (any_of HT_.out (by kernel_rfl)) (fun _ _ _ h => h) (Or.inl ⟨by rfl, ?_⟩) ?_ ?_
                                  rotate_left
                                  · intro w'
                                    go_simp
                                    with_reducible rfl
                                  rotate_left
                                  · simp only [Act.put, List.setIfInBounds_toArray, List.set_cons_zero, List.set_cons_succ, i64_w, i32_w]
                                    rfl
                                  refine take_ (i := 3) (N := some 35) (v := ?_) (a' := ?_) #[true, true, true, true, true, true, false, false, false, false] rfl rfl (take_ofW HT_.out HW_.out (by kernel_rfl)) (fun _ _ _ h => h) (Or.inl ⟨by rfl, ?_⟩) hHeld ?_ ?_
                                  rotate_left
                                  · intro w' _
                                    go_simp
                                    with_reducible rfl
                                  rotate_left
                                  · simp only [Act.put, List.setIfInBounds_toArray, List.set_cons_zero, List.set_cons_succ, i64_w, i32_w]
                                    rfl
                                  refine take_ (i := 6) (N := some 38) (v := ?_) (a' := ?_) #[true, true, true, true, true, true, true, false, false, false] rfl rfl (take_ofW HT_.out HW_.out (by kernel_rfl)) (fun _ _ _ h => h) (Or.inl ⟨by rfl, ?_⟩) hHeld ?_ ?_
                                  rotate_left
                                  · intro w' _
                                    go_simp
                                    with_reducible rfl
                                  rotate_left
                                  · simp only [Act.put, List.setIfInBounds_toArray, List.set_cons_zero, List.set_cons_succ, i64_w, i32_w]
                                    rfl
                                  refine one_ (i := 7) (N := some 39) #[true, true, true, true, true, true, true, true, false, false] rfl rfl (one_of HT_.out (by kernel_rfl)) (by decide) (fun K hK => ?_)
                                  refine Kd.R_lit_step (Kd.int .u8) _ 5 ?hg (N := 39) ?hd (xs := ([92, 120, bt (⟨#[48, 49, 50, 51, 52, 53, 54, 55, 56, 57, 97, 98, 99, 100, 101, 102]⟩ : ByteArray) (ji20), bt (⟨#[48, 49, 50, 51, 52, 53, 54, 55, 56, 57, 97, 98, 99, 100, 101, 102]⟩ : ByteArray) (Go.bits .and .u8 (rd y136 x10_1) 15)] : List Int)) (inner := [.int .u8 92, .int .u8 120, .int .u8 (bt (⟨#[48, 49, 50, 51, 52, 53, 54, 55, 56, 57, 97, 98, 99, 100, 101, 102]⟩ : ByteArray) (ji20)), .int .u8 (bt (⟨#[48, 49, 50, 51, 52, 53, 54, 55, 56, 57, 97, 98, 99, 100, 101, 102]⟩ : ByteArray) (Go.bits .and .u8 (rd y136 x10_1) 15))]) (ok := fun _ => True) (okp := fun _ => True) ?hr ?hp (fun _ hk => hk) trivial (Below.refl _ _) (Nat.le_refl _) (by simp) ?_; (case hd => rfl); (case hg => rfl); (case hr => first | (go_simp; done) | (go_simp; rfl)); (case hp => exact (Reps.one (show Kd.M (Kd.int .u8) _ _ _ 92 [.int .u8 92] from rfl) (Reps.one (show Kd.M (Kd.int .u8) _ _ _ 120 [.int .u8 120] from rfl) (Reps.one (show Kd.M (Kd.int .u8) _ _ _ (bt (⟨#[48, 49, 50, 51, 52, 53, 54, 55, 56, 57, 97, 98, 99, 100, 101, 102]⟩ : ByteArray) (ji20)) [.int .u8 (bt (⟨#[48, 49, 50, 51, 52, 53, 54, 55, 56, 57, 97, 98, 99, 100, 101, 102]⟩ : ByteArray) (ji20))] from rfl) (Reps.one (show Kd.M (Kd.int .u8) _ _ _ (bt (⟨#[48, 49, 50, 51, 52, 53, 54, 55, 56, 57, 97, 98, 99, 100, 101, 102]⟩ : ByteArray) (Go.bits .and .u8 (rd y136 x10_1) 15)) [.int .u8 (bt (⟨#[48, 49, 50, 51, 52, 53, 54, 55, 56, 57, 97, 98, 99, 100, 101, 102]⟩ : ByteArray) (Go.bits .and .u8 (rd y136 x10_1) 15))] from rfl) (Reps.none _ _))))))
                                  intro v150 w29 ho30 hb hg_ hnew_
                                  clear hg_ hnew_
                                  (first | rw [← Ny149.out] at ho30 | (simp only [Int.reduceToNat] at ho30; rw [← Ny149.out] at ho30))
                                  have n0_ := Aside0.mk (Kd.R_elder' (by (with_reducible repeat (first | apply Kd.R_alloc | apply Kd.R_drewN | apply Kd.R_drew)); exact HO_3.out) (Kd.R_base ho30) hb)
                                  have n1_ := Aside0.mk (Kd.V_elder' (by (with_reducible repeat (first | apply Kd.V_alloc | apply Kd.V_drewN | apply Kd.V_drew)); exact HO_8.out) (Kd.R_base ho30) hb)
                                  have n2_ := Aside0.mk (Kd.R_lower (Kd.R_new' ho30 (Kd.R_lt (by (with_reducible repeat (first | apply Kd.R_alloc | apply Kd.R_drewN | apply Kd.R_drew)); exact HO_3.out))) (below_size (by repeat (first | (with_reducible first | exact HB.out | apply below_alloc | apply pw_below_drewN | apply below_drew1) | exact HB.out))))
                                  have n3_ := Aside0.mk (below_step (by repeat (first | (with_reducible first | exact HB.out | apply below_alloc | apply pw_below_drewN | apply below_drew1) | exact HB.out)) hb)
                                  clear HO_3
                                  clear HO_8
                                  clear HB
                                  have HO_3 := n0_
                                  have HO_8 := n1_
                                  have HO151 := n2_
                                  have HB := n3_
                                  clear n0_ n1_ n2_ n3_
                                  clear hb ho30
                                  obtain ⟨Ao32, co32, eo32⟩ := Kd.R_slice HO151.out
                                  (first | subst eo32 | (injection eo32 with f1_ f2_ f3_; have f4_ := f1_.symm; have f5_ := f3_.symm; clear f1_ f2_ f3_; subst f4_; subst f5_))
                                  refine hK.out _ _ trivial (fun hHeld => ?_)
                                  clear hK K
                                  refine norm_ (a' := ?_) ?_ ?_
                                  rotate_left
                                  · show Act.put _ (some 39) _ = _
                                    simp only [Act.put, List.setIfInBounds_toArray, List.set_cons_zero, List.set_cons_succ, i64_w, i32_w]
                                    rfl
                                  refine one_ (i := 8) (N := some 40) #[true, true, true, true, true, true, true, true, true, false] rfl rfl (one_of HT_.out (by kernel_rfl)) (by decide) (fun K hK => ?_)
                                  refine Kd.R_append_rows_step (Kd.int .u8) (w0 := w) w.heap.size (by rfl) (.tmp 32) (.tmp 39) 37 5 (.int .u8 0) 1 rfl Tryd.underlying37 info5 rfl (by decide) (by omega) u3 x3_1 y149 _ _ _ (fun k_ => some k_ ≠ (.slice Ao32 y149.length co32 : Value).ownBlock) (fun _ => False) rfl rfl ?aO ?aR (fun _ _ h => h) (fun _ h => h.elim) ?aF ?aB ?aS ?aL ?_
                                  (case aR => repeat (first | exact (Kd.R_reads' HO151.out).2.2 | (with_reducible refine Kd.C_alloc ?_ _) | (with_reducible refine Kd.C_drewN ?_ _) | (with_reducible refine Kd.C_drew ?_)))
                                  (case aB => exact (by repeat (first | (with_reducible first | exact HB.out | apply below_alloc | apply pw_below_drewN | apply below_drew1) | exact HB.out)))
                                  (case aF => exact (fun k_ hk => Kd.fresh' (Kd.R_lt (by (with_reducible repeat (first | apply Kd.R_alloc | apply Kd.R_drewN | apply Kd.R_drew)); exact HO151.out)) k_ hk))
                                  (case aO => exact (by (with_reducible repeat (first | apply Kd.R_alloc | apply Kd.R_drewN | apply Kd.R_drew)); exact Kd.R_mono HO_3.out (fun _ hk => hk.2)))
                                  (case aS => exact (below_size (by repeat (first | (with_reducible first | exact HB.out | apply below_alloc | apply pw_below_drewN | apply below_drew1) | exact HB.out))))
                                  (case aL => have := LMc27.out; omega)
                                  intro v153 w31 ho hb hg hat
                                  rw [← Ny152.out] at ho
                                  have n0_ := Aside0.mk (Kd.V_afterv (ok := (fun k_ => some k_ ≠ (.slice Ao32 y149.length co32 : Value).ownBlock)) (by (with_reducible repeat (first | apply Kd.V_alloc | apply Kd.V_drewN | apply Kd.V_drew)); exact Kd.V_mono HO_8.out (fun _ hk => ⟨hk.2, hk.1⟩)) hg hat)
                                  have n1_ := Aside0.mk (Kd.R_after (ok := (fun _ => True)) (by (with_reducible repeat (first | apply Kd.R_alloc | apply Kd.R_drewN | apply Kd.R_drew)); exact HO151.out) hg hat)
                                  have n2_ := Aside0.mk (hb)
                                  have n3_ := Aside0.mk (ho)
                                  clear HO_8
                                  clear HO151
                                  clear HB
                                  clear HO_3
                                  have HO_8 := n0_
                                  have HO151 := n1_
                                  have HB := n2_
                                  have HO154 := n3_
                                  clear n0_ n1_ n2_ n3_
                                  clear ho hb hg hat
                                  refine hK.out _ _ trivial (fun hHeld => ?_)
                                  clear hK K
                                  refine norm_ (a' := ?_) ?_ ?_
                                  rotate_left
                                  · show Act.put _ (some 40) _ = _
                                    simp only [Act.put, List.setIfInBounds_toArray, List.set_cons_zero, List.set_cons_succ, i64_w, i32_w]
                                    rfl
                                  refine pure_ (i := 9) (N := some 3) (v := ?_) (a' := ?_) #[true, true, true, true, true, true, true, true, true, true] rfl rfl (any_of HT_.out (by kernel_rfl)) (fun _ _ _ h => h) (Or.inl ⟨by rfl, ?_⟩) ?_ ?_
                                  rotate_left
                                  · intro w'
                                    go_simp
                                    with_reducible rfl
                                  rotate_left
                                  · simp only [Act.put, List.setIfInBounds_toArray, List.set_cons_zero, List.set_cons_succ, i64_w, i32_w]
                                    rfl
                                  refine done_ (done_of HT_.out (by kernel_rfl)) ?_
                                  try go_wp2
                                  go_roundg kj10
                                  case measure => have := HK1.out; have := HJ10.out; omega
                                  case rel => exact ⟨(y152), (wrap64 (x10_1 + 1)), (by first | rfl | (simp; done) | (simp [*]; done)), H', ⟨by have := HK1.out; have := HJ10.out; omega⟩, ⟨by (with_reducible repeat (first | apply Kd.R_alloc | apply Kd.R_drewN | apply Kd.R_drew)); exact Kd.R_mono HO154.out (fun _ hk => trivial)⟩, ⟨by (with_reducible repeat (first | apply Kd.V_alloc | apply Kd.V_drewN | apply Kd.V_drew)); exact Kd.V_mono HO_8.out (fun _ hk => hk.2)⟩, ⟨by repeat (first | (with_reducible first | exact HB.out | apply below_alloc | apply pw_below_drewN | apply below_drew1) | exact HB.out)⟩⟩
                              · rw [if_neg c27] at H
                                exact absurd H (by simp)
                            · rw [if_neg c25] at H
                              exact absurd H (by simp)
                          · rw [if_neg c24] at H
                            exact absurd H (by simp)
                        · rw [if_neg c22] at H
                          exact absurd H (by simp)
                      · rw [if_neg c21] at H
                        exact absurd H (by simp)
                    · rw [if_neg c19] at H
                      have c19b0 : decide ((rd y136 x10_1) < 32) = false := decide_eq_false c19
                      clear c19
                      by_cases c33 : (rd y136 x10_1) > 126
                      · rw [if_pos c33] at H
                        have c33b0 : decide (126 < (rd y136 x10_1)) = true := decide_eq_true c33
                        clear c33
                        obtain ⟨ji34, hji34⟩ : ∃ j_ : Int, ((rd y136 x10_1) / 16) = j_ := ⟨_, rfl⟩
                        replace H : (if 0 ≤ (ji34) then (if (ji34) < 16 then (if 0 ≤ (Go.bits .and .u8 (rd y136 x10_1) 15) then (if (Go.bits .and .u8 (rd y136 x10_1) 15) < 16 then ((some (([92, 120, bt (⟨#[48, 49, 50, 51, 52, 53, 54, 55, 56, 57, 97, 98, 99, 100, 101, 102]⟩ : ByteArray) (ji34), bt (⟨#[48, 49, 50, 51, 52, 53, 54, 55, 56, 57, 97, 98, 99, 100, 101, 102]⟩ : ByteArray) (Go.bits .and .u8 (rd y136 x10_1) 15)] : List Int) : List Int)).bind fun y155 => (if x3_1.length + y155.length < 140737488355328 then (lexer_Quote.l0 kj10 (x3_1 ++ y155) y136 (y136.length : Int) (wrap64 (x10_1 + 1))) else (none))) else (none)) else (none)) else (none)) else (none)) = some r := by first | (rw [hji34] at H; exact H) | (simp only [hji34] at H ⊢; exact H)
                        by_cases c35 : 0 ≤ (ji34)
                        · rw [if_pos c35] at H
                          have c35b0 : decide (0 ≤ (ji34)) = true := decide_eq_true c35
                          clear c35
                          by_cases c36 : (ji34) < 16
                          · rw [if_pos c36] at H
                            have c36b0 : decide ((ji34) < 16) = true := decide_eq_true c36
                            clear c36
                            by_cases c38 : 0 ≤ (Go.bits .and .u8 (rd y136 x10_1) 15)
                            · rw [if_pos c38] at H
                              have c38b0 : decide (0 ≤ (Go.bits .and .u8 (rd y136 x10_1) 15)) = true := decide_eq_true c38
                              clear c38
                              by_cases c39 : (Go.bits .and .u8 (rd y136 x10_1) 15) < 16
                              · rw [if_pos c39] at H
                                have c39b0 : decide ((Go.bits .and .u8 (rd y136 x10_1) 15) < 16) = true := decide_eq_true c39
                                clear c39
                                obtain ⟨y155, hy155⟩ : ∃ y_ : List Int, y_ = (([92, 120, bt (⟨#[48, 49, 50, 51, 52, 53, 54, 55, 56, 57, 97, 98, 99, 100, 101, 102]⟩ : ByteArray) (ji34), bt (⟨#[48, 49, 50, 51, 52, 53, 54, 55, 56, 57, 97, 98, 99, 100, 101, 102]⟩ : ByteArray) (Go.bits .and .u8 (rd y136 x10_1) 15)] : List Int)) := ⟨_, rfl⟩
                                replace H : (if x3_1.length + y155.length < 140737488355328 then (lexer_Quote.l0 kj10 (x3_1 ++ y155) y136 (y136.length : Int) (wrap64 (x10_1 + 1))) else (none)) = some r := by first | (rw [hy155]; with_reducible exact H) | (have H2_ := (Option.bind_some _ _).symm.trans H; rw [hy155]; with_reducible exact H2_) | (have H2_ := (Option.bind_some _ _).symm.trans H; with_reducible exact H2_) | with_reducible exact H | (rw [hy155]; exact H) | exact H
                                have Ny155 := Aside0.mk hy155
                                clear hy155
                                by_cases c41 : x3_1.length + y155.length < 140737488355328
                                · rw [if_pos c41] at H
                                  have LMc41 := Aside0.mk c41
                                  clear c41
                                  obtain ⟨y158, hy158⟩ : ∃ y_ : List Int, y_ = (x3_1 ++ y155) := ⟨_, rfl⟩
                                  replace H : (lexer_Quote.l0 kj10 y158 y136 (y136.length : Int) (wrap64 (x10_1 + 1))) = some r := by first | (rw [hy158]; with_reducible exact H) | (have H2_ := (Option.bind_some _ _).symm.trans H; rw [hy158]; with_reducible exact H2_) | (have H2_ := (Option.bind_some _ _).symm.trans H; with_reducible exact H2_) | with_reducible exact H | (rw [hy158]; exact H) | exact H
                                  have Ny158 := Aside0.mk hy158
                                  clear hy158
                                  as_aux_lemma =>
                                    have H' := Aside0.mk H
                                    clear H
                                    try go_wp2
                                    have n0_ := Aside0.mk (Kd.R_drew HO_3.out)
                                    have n1_ := Aside0.mk (Kd.V_drew HO_8.out)
                                    have n2_ := Aside0.mk (below_drew1 HB.out)
                                    clear HO_3
                                    clear HO_8
                                    clear HB
                                    have HO_3 := n0_
                                    have HO_8 := n1_
                                    have HB := n2_
                                    clear n0_ n1_ n2_
                                    have p37 : 0 ≤ ((ji34) : Int) := of_decide_eq_true (by first | (with_reducible assumption) | assumption)
                                    have q37 : (ji34) < (16 : Int) := of_decide_eq_true (by first | (with_reducible assumption) | assumption)
                                    have hx37 := bt_at (⟨#[48, 49, 50, 51, 52, 53, 54, 55, 56, 57, 97, 98, 99, 100, 101, 102]⟩ : ByteArray) (ji34)
                                    replace p37 := eq_true p37
                                    replace q37 := eq_true q37
                                    have p40 : 0 ≤ ((Go.bits .and .u8 (rd y136 x10_1) 15) : Int) := of_decide_eq_true (by first | (with_reducible assumption) | assumption)
                                    have q40 : (Go.bits .and .u8 (rd y136 x10_1) 15) < (16 : Int) := of_decide_eq_true (by first | (with_reducible assumption) | assumption)
                                    have hx40 := bt_at (⟨#[48, 49, 50, 51, 52, 53, 54, 55, 56, 57, 97, 98, 99, 100, 101, 102]⟩ : ByteArray) (Go.bits .and .u8 (rd y136 x10_1) 15)
                                    replace p40 := eq_true p40
                                    replace q40 := eq_true q40
                                    refine start_ (n := 10) (S := fun w' => True) (ds := []) #[false, false, false, false, false, false, false, false, false, false] (by kernel_rfl) rfl rfl trivial (fun hHeld => ?_); refine with_tabW lexer_Quote.tab11 lexer_Quote.bits11 (fun HT_ HW_ => ?_)
                                    generalize wc.drew = w42 at HO_3 HO_8 HB hHeld ⊢
                                    refine pure_ (i := 0) (N := some 32) (v := ?_) (a' := ?_) #[true, false, false, false, false, false, false, false, false, false] rfl rfl (any_of HT_.out (by kernel_rfl)) (fun _ _ _ h => h) (Or.inl ⟨by rfl, ?_⟩) ?_ ?_
                                    rotate_left
                                    · intro w'
                                      go_simp
                                      with_reducible rfl
                                    rotate_left
                                    · simp only [Act.put, List.setIfInBounds_toArray, List.set_cons_zero, List.set_cons_succ, i64_w, i32_w]
                                      rfl
                                    refine pure_ (i := 1) (N := some 33) (v := ?_) (a' := ?_) #[true, true, false, false, false, false, false, false, false, false] rfl rfl (any_of HT_.out (by kernel_rfl)) (fun _ _ _ h => h) (Or.inl ⟨by rfl, ?_⟩) ?_ ?_
                                    rotate_left
                                    · intro w'
                                      go_simp
                                      with_reducible rfl
                                    rotate_left
                                    · simp only [Act.put, List.setIfInBounds_toArray, List.set_cons_zero, List.set_cons_succ, i64_w, i32_w]
                                      rfl
                                    refine pure_ (i := 2) (N := some 34) (v := ?_) (a' := ?_) #[true, true, true, false, false, false, false, false, false, false] rfl rfl (any_of HT_.out (by kernel_rfl)) (fun _ _ _ h => h) (Or.inl ⟨by rfl, ?_⟩) ?_ ?_
                                    rotate_left
                                    · intro w'
                                      go_simp
                                      with_reducible rfl
                                    rotate_left
                                    · simp only [Act.put, List.setIfInBounds_toArray, List.set_cons_zero, List.set_cons_succ, i64_w, i32_w]
                                      rfl
                                    refine pure_ (i := 4) (N := some 36) (v := ?_) (a' := ?_) #[true, true, true, false, true, false, false, false, false, false] rfl rfl (any_of HT_.out (by kernel_rfl)) (fun _ _ _ h => h) (Or.inl ⟨by rfl, ?_⟩) ?_ ?_
                                    rotate_left
                                    · intro w'
                                      go_simp
                                      with_reducible rfl
                                    rotate_left
                                    · simp only [Act.put, List.setIfInBounds_toArray, List.set_cons_zero, List.set_cons_succ, i64_w, i32_w]
                                      rfl
                                    refine pure_ (i := 5) (N := some 37) (v := ?_) (a' := ?_) #[true, true, true, false, true, true, false, false, false, false] rfl rfl (any_of HT_.out (by kernel_rfl)) (fun _ _ _ h => h) (Or.inl ⟨by rfl, ?_⟩) ?_ ?_
                                    rotate_left
                                    · intro w'
                                      go_simp
                                      with_reducible rfl
                                    rotate_left
                                    · simp only [Act.put, List.setIfInBounds_toArray, List.set_cons_zero, List.set_cons_succ, i64_w, i32_w]
                                      rfl
                                    refine take_ (i := 3) (N := some 35) (v := ?_) (a' := ?_) #[true, true, true, true, true, true, false, false, false, false] rfl rfl (take_ofW HT_.out HW_.out (by kernel_rfl)) (fun _ _ _ h => h) (Or.inl ⟨by rfl, ?_⟩) hHeld ?_ ?_
                                    rotate_left
                                    · intro w' _
                                      go_simp
                                      with_reducible rfl
                                    rotate_left
                                    · simp only [Act.put, List.setIfInBounds_toArray, List.set_cons_zero, List.set_cons_succ, i64_w, i32_w]
                                      rfl
                                    refine take_ (i := 6) (N := some 38) (v := ?_) (a' := ?_) #[true, true, true, true, true, true, true, false, false, false] rfl rfl (take_ofW HT_.out HW_.out (by kernel_rfl)) (fun _ _ _ h => h) (Or.inl ⟨by rfl, ?_⟩) hHeld ?_ ?_
                                    rotate_left
                                    · intro w' _
                                      go_simp
                                      with_reducible rfl
                                    rotate_left
                                    · simp only [Act.put, List.setIfInBounds_toArray, List.set_cons_zero, List.set_cons_succ, i64_w, i32_w]
                                      rfl
                                    refine one_ (i := 7) (N := some 39) #[true, true, true, true, true, true, true, true, false, false] rfl rfl (one_of HT_.out (by kernel_rfl)) (by decide) (fun K hK => ?_)
                                    refine Kd.R_lit_step (Kd.int .u8) _ 5 ?hg (N := 39) ?hd (xs := ([92, 120, bt (⟨#[48, 49, 50, 51, 52, 53, 54, 55, 56, 57, 97, 98, 99, 100, 101, 102]⟩ : ByteArray) (ji34), bt (⟨#[48, 49, 50, 51, 52, 53, 54, 55, 56, 57, 97, 98, 99, 100, 101, 102]⟩ : ByteArray) (Go.bits .and .u8 (rd y136 x10_1) 15)] : List Int)) (inner := [.int .u8 92, .int .u8 120, .int .u8 (bt (⟨#[48, 49, 50, 51, 52, 53, 54, 55, 56, 57, 97, 98, 99, 100, 101, 102]⟩ : ByteArray) (ji34)), .int .u8 (bt (⟨#[48, 49, 50, 51, 52, 53, 54, 55, 56, 57, 97, 98, 99, 100, 101, 102]⟩ : ByteArray) (Go.bits .and .u8 (rd y136 x10_1) 15))]) (ok := fun _ => True) (okp := fun _ => True) ?hr ?hp (fun _ hk => hk) trivial (Below.refl _ _) (Nat.le_refl _) (by simp) ?_; (case hd => rfl); (case hg => rfl); (case hr => first | (go_simp; done) | (go_simp; rfl)); (case hp => exact (Reps.one (show Kd.M (Kd.int .u8) _ _ _ 92 [.int .u8 92] from rfl) (Reps.one (show Kd.M (Kd.int .u8) _ _ _ 120 [.int .u8 120] from rfl) (Reps.one (show Kd.M (Kd.int .u8) _ _ _ (bt (⟨#[48, 49, 50, 51, 52, 53, 54, 55, 56, 57, 97, 98, 99, 100, 101, 102]⟩ : ByteArray) (ji34)) [.int .u8 (bt (⟨#[48, 49, 50, 51, 52, 53, 54, 55, 56, 57, 97, 98, 99, 100, 101, 102]⟩ : ByteArray) (ji34))] from rfl) (Reps.one (show Kd.M (Kd.int .u8) _ _ _ (bt (⟨#[48, 49, 50, 51, 52, 53, 54, 55, 56, 57, 97, 98, 99, 100, 101, 102]⟩ : ByteArray) (Go.bits .and .u8 (rd y136 x10_1) 15)) [.int .u8 (bt (⟨#[48, 49, 50, 51, 52, 53, 54, 55, 56, 57, 97, 98, 99, 100, 101, 102]⟩ : ByteArray) (Go.bits .and .u8 (rd y136 x10_1) 15))] from rfl) (Reps.none _ _))))))
                                    intro v156 w43 ho44 hb hg_ hnew_
                                    clear hg_ hnew_
                                    (first | rw [← Ny155.out] at ho44 | (simp only [Int.reduceToNat] at ho44; rw [← Ny155.out] at ho44))
                                    have n0_ := Aside0.mk (Kd.R_elder' (by (with_reducible repeat (first | apply Kd.R_alloc | apply Kd.R_drewN | apply Kd.R_drew)); exact HO_3.out) (Kd.R_base ho44) hb)
                                    have n1_ := Aside0.mk (Kd.V_elder' (by (with_reducible repeat (first | apply Kd.V_alloc | apply Kd.V_drewN | apply Kd.V_drew)); exact HO_8.out) (Kd.R_base ho44) hb)
                                    have n2_ := Aside0.mk (Kd.R_lower (Kd.R_new' ho44 (Kd.R_lt (by (with_reducible repeat (first | apply Kd.R_alloc | apply Kd.R_drewN | apply Kd.R_drew)); exact HO_3.out))) (below_size (by repeat (first | (with_reducible first | exact HB.out | apply below_alloc | apply pw_below_drewN | apply below_drew1) | exact HB.out))))
                                    have n3_ := Aside0.mk (below_step (by repeat (first | (with_reducible first | exact HB.out | apply below_alloc | apply pw_below_drewN | apply below_drew1) | exact HB.out)) hb)
                                    clear HO_3
                                    clear HO_8
                                    clear HB
                                    have HO_3 := n0_
                                    have HO_8 := n1_
                                    have HO157 := n2_
                                    have HB := n3_
                                    clear n0_ n1_ n2_ n3_
                                    clear hb ho44
                                    obtain ⟨Ao46, co46, eo46⟩ := Kd.R_slice HO157.out
                                    (first | subst eo46 | (injection eo46 with f1_ f2_ f3_; have f4_ := f1_.symm; have f5_ := f3_.symm; clear f1_ f2_ f3_; subst f4_; subst f5_))
                                    refine hK.out _ _ trivial (fun hHeld => ?_)
                                    clear hK K
                                    refine norm_ (a' := ?_) ?_ ?_
                                    rotate_left
                                    · show Act.put _ (some 39) _ = _
                                      simp only [Act.put, List.setIfInBounds_toArray, List.set_cons_zero, List.set_cons_succ, i64_w, i32_w]
                                      rfl
                                    refine one_ (i := 8) (N := some 40) #[true, true, true, true, true, true, true, true, true, false] rfl rfl (one_of HT_.out (by kernel_rfl)) (by decide) (fun K hK => ?_)
                                    refine Kd.R_append_rows_step (Kd.int .u8) (w0 := w) w.heap.size (by rfl) (.tmp 32) (.tmp 39) 37 5 (.int .u8 0) 1 rfl Tryd.underlying37 info5 rfl (by decide) (by omega) u3 x3_1 y155 _ _ _ (fun k_ => some k_ ≠ (.slice Ao46 y155.length co46 : Value).ownBlock) (fun _ => False) rfl rfl ?aO ?aR (fun _ _ h => h) (fun _ h => h.elim) ?aF ?aB ?aS ?aL ?_
                                    (case aR => repeat (first | exact (Kd.R_reads' HO157.out).2.2 | (with_reducible refine Kd.C_alloc ?_ _) | (with_reducible refine Kd.C_drewN ?_ _) | (with_reducible refine Kd.C_drew ?_)))
                                    (case aB => exact (by repeat (first | (with_reducible first | exact HB.out | apply below_alloc | apply pw_below_drewN | apply below_drew1) | exact HB.out)))
                                    (case aF => exact (fun k_ hk => Kd.fresh' (Kd.R_lt (by (with_reducible repeat (first | apply Kd.R_alloc | apply Kd.R_drewN | apply Kd.R_drew)); exact HO157.out)) k_ hk))
                                    (case aO => exact (by (with_reducible repeat (first | apply Kd.R_alloc | apply Kd.R_drewN | apply Kd.R_drew)); exact Kd.R_mono HO_3.out (fun _ hk => hk.2)))
                                    (case aS => exact (below_size (by repeat (first | (with_reducible first | exact HB.out | apply below_alloc | apply pw_below_drewN | apply below_drew1) | exact HB.out))))
                                    (case aL => have := LMc41.out; omega)
                                    intro v159 w45 ho hb hg hat
                                    rw [← Ny158.out] at ho
                                    have n0_ := Aside0.mk (Kd.V_afterv (ok := (fun k_ => some k_ ≠ (.slice Ao46 y155.length co46 : Value).ownBlock)) (by (with_reducible repeat (first | apply Kd.V_alloc | apply Kd.V_drewN | apply Kd.V_drew)); exact Kd.V_mono HO_8.out (fun _ hk => ⟨hk.2, hk.1⟩)) hg hat)
                                    have n1_ := Aside0.mk (Kd.R_after (ok := (fun _ => True)) (by (with_reducible repeat (first | apply Kd.R_alloc | apply Kd.R_drewN | apply Kd.R_drew)); exact HO157.out) hg hat)
                                    have n2_ := Aside0.mk (hb)
                                    have n3_ := Aside0.mk (ho)
                                    clear HO_8
                                    clear HO157
                                    clear HB
                                    clear HO_3
                                    have HO_8 := n0_
                                    have HO157 := n1_
                                    have HB := n2_
                                    have HO160 := n3_
                                    clear n0_ n1_ n2_ n3_
                                    clear ho hb hg hat
                                    refine hK.out _ _ trivial (fun hHeld => ?_)
                                    clear hK K
                                    refine norm_ (a' := ?_) ?_ ?_
                                    rotate_left
                                    · show Act.put _ (some 40) _ = _
                                      simp only [Act.put, List.setIfInBounds_toArray, List.set_cons_zero, List.set_cons_succ, i64_w, i32_w]
                                      rfl
                                    refine pure_ (i := 9) (N := some 3) (v := ?_) (a' := ?_) #[true, true, true, true, true, true, true, true, true, true] rfl rfl (any_of HT_.out (by kernel_rfl)) (fun _ _ _ h => h) (Or.inl ⟨by rfl, ?_⟩) ?_ ?_
                                    rotate_left
                                    · intro w'
                                      go_simp
                                      with_reducible rfl
                                    rotate_left
                                    · simp only [Act.put, List.setIfInBounds_toArray, List.set_cons_zero, List.set_cons_succ, i64_w, i32_w]
                                      rfl
                                    refine done_ (done_of HT_.out (by kernel_rfl)) ?_
                                    try go_wp2
                                    go_roundg kj10
                                    case measure => have := HK1.out; have := HJ10.out; omega
                                    case rel => exact ⟨(y158), (wrap64 (x10_1 + 1)), (by first | rfl | (simp; done) | (simp [*]; done)), H', ⟨by have := HK1.out; have := HJ10.out; omega⟩, ⟨by (with_reducible repeat (first | apply Kd.R_alloc | apply Kd.R_drewN | apply Kd.R_drew)); exact Kd.R_mono HO160.out (fun _ hk => trivial)⟩, ⟨by (with_reducible repeat (first | apply Kd.V_alloc | apply Kd.V_drewN | apply Kd.V_drew)); exact Kd.V_mono HO_8.out (fun _ hk => hk.2)⟩, ⟨by repeat (first | (with_reducible first | exact HB.out | apply below_alloc | apply pw_below_drewN | apply below_drew1) | exact HB.out)⟩⟩
                                · rw [if_neg c41] at H
                                  exact absurd H (by simp)
                              · rw [if_neg c39] at H
                                exact absurd H (by simp)
                            · rw [if_neg c38] at H
                              exact absurd H (by simp)
                          · rw [if_neg c36] at H
                            exact absurd H (by simp)
                        · rw [if_neg c35] at H
                          exact absurd H (by simp)
                      · rw [if_neg c33] at H
                        have c33b0 : decide (126 < (rd y136 x10_1)) = false := decide_eq_false c33
                        clear c33
                        by_cases c47 : x3_1.length < 140737488355328
                        · rw [if_pos c47] at H
                          have LMc47 := Aside0.mk c47
                          clear c47
                          obtain ⟨y161, hy161⟩ : ∃ y_ : List Int, y_ = (x3_1 ++ [(rd y136 x10_1)]) := ⟨_, rfl⟩
                          replace H : (lexer_Quote.l0 kj10 y161 y136 (y136.length : Int) (wrap64 (x10_1 + 1))) = some r := by first | (rw [hy161]; with_reducible exact H) | (have H2_ := (Option.bind_some _ _).symm.trans H; rw [hy161]; with_reducible exact H2_) | (have H2_ := (Option.bind_some _ _).symm.trans H; with_reducible exact H2_) | with_reducible exact H | (rw [hy161]; exact H) | exact H
                          have Ny161 := Aside0.mk hy161
                          clear hy161
                          as_aux_lemma =>
                            have H' := Aside0.mk H
                            clear H
                            go_wp2_with (first | ((with_reducible refine gate_builtin (b := .append) (xs := #[.tmp 14, .tmp 16]) rfl ?_); at_builtin; refine Kd.R_append (Kd.int .u8) (w0 := w) w.heap.size rfl (.tmp 14) (.tmp 16) 37 5 (.int .u8 0) 1 rfl Tryd.underlying37 info5 rfl (by decide) (by omega) u3 x3_1 (rd y136 x10_1) [.int .u8 (rd y136 x10_1)] (fun _ => True) (fun _ => False) rfl rfl ?aP (fun _ hk => hk.elim) ?aF ?aO ?aB ?aS ?aL ?_; (case aP => exact rfl); (case aB => exact (by repeat (first | (with_reducible first | exact HB.out | apply below_alloc | apply pw_below_drewN | apply below_drew1) | exact HB.out))); (case aF => exact (fun _ _ => trivial)); (case aO => exact (by (with_reducible repeat (first | apply Kd.R_alloc | apply Kd.R_drewN | apply Kd.R_drew)); exact HO_3.out)); (case aS => exact (below_size (by repeat (first | (with_reducible first | exact HB.out | apply below_alloc | apply pw_below_drewN | apply below_drew1) | exact HB.out)))); (case aL => have := LMc47.out; omega); intro v162 w48 ho hb hg hat; rw [← Ny161.out] at ho; have n0_ := Aside0.mk (Kd.V_afterv (ok := (fun _ => True)) (by (with_reducible repeat (first | apply Kd.V_alloc | apply Kd.V_drewN | apply Kd.V_drew)); exact Kd.V_mono HO_8.out (fun _ hk => ⟨trivial, hk⟩)) hg hat); have n1_ := Aside0.mk (hb); have n2_ := Aside0.mk (ho); clear HO_8; clear HB; clear HO_3; have HO_8 := n0_; have HB := n1_; have HO163 := n2_; clear n0_ n1_ n2_; clear ho hb hg hat))
                            go_roundg kj10
                            case measure => have := HK1.out; have := HJ10.out; omega
                            case rel => exact ⟨(y161), (wrap64 (x10_1 + 1)), (by first | rfl | (simp; done) | (simp [*]; done)), H', ⟨by have := HK1.out; have := HJ10.out; omega⟩, ⟨by (with_reducible repeat (first | apply Kd.R_alloc | apply Kd.R_drewN | apply Kd.R_drew)); exact HO163.out⟩, ⟨by (with_reducible repeat (first | apply Kd.V_alloc | apply Kd.V_drewN | apply Kd.V_drew)); exact Kd.V_mono HO_8.out (fun _ hk => hk.2)⟩, ⟨by repeat (first | (with_reducible first | exact HB.out | apply below_alloc | apply pw_below_drewN | apply below_drew1) | exact HB.out)⟩⟩
                        · rw [if_neg c47] at H
                          exact absurd H (by simp)
            · rw [if_neg c10] at H
              exact absurd H (by simp)
          · rw [if_neg c9] at H
            exact absurd H (by simp)
        · rw [if_neg c8] at H
          have c8b0 : decide (x10_1 < (y136.length : Int)) = false := decide_eq_false c8
          clear c8
          by_cases c49 : x3_1.length < 140737488355328
          · rw [if_pos c49] at H
            have LMc49 := Aside0.mk c49
            clear c49
            obtain ⟨y139, hy139⟩ : ∃ y_ : List Int, y_ = (x3_1 ++ [34]) := ⟨_, rfl⟩
            replace H : (some (strOfNums y139)) = some r := by first | (rw [hy139]; with_reducible exact H) | (have H2_ := (Option.bind_some _ _).symm.trans H; rw [hy139]; with_reducible exact H2_) | (have H2_ := (Option.bind_some _ _).symm.trans H; with_reducible exact H2_) | with_reducible exact H | (rw [hy139]; exact H) | exact H
            have Ny139 := Aside0.mk hy139
            clear hy139
            as_aux_lemma =>
              obtain rfl := Option.some.inj H
              go_wp2_with (first | ((with_reducible refine gate_builtin (b := .append) (xs := #[.tmp 42, .tmp 43]) rfl ?_); at_builtin; refine Kd.R_append (Kd.int .u8) (w0 := w) w.heap.size rfl (.tmp 42) (.tmp 43) 37 5 (.int .u8 0) 1 rfl Tryd.underlying37 info5 rfl (by decide) (by omega) u3 x3_1 34 [.int .u8 34] (fun _ => True) (fun _ => False) rfl rfl ?aP (fun _ hk => hk.elim) ?aF ?aO ?aB ?aS ?aL ?_; (case aP => exact rfl); (case aB => exact (by repeat (first | (with_reducible first | exact HB.out | apply below_alloc | apply pw_below_drewN | apply below_drew1) | exact HB.out))); (case aF => exact (fun _ _ => trivial)); (case aO => exact (by (with_reducible repeat (first | apply Kd.R_alloc | apply Kd.R_drewN | apply Kd.R_drew)); exact HO_3.out)); (case aS => exact (below_size (by repeat (first | (with_reducible first | exact HB.out | apply below_alloc | apply pw_below_drewN | apply below_drew1) | exact HB.out)))); (case aL => have := LMc49.out; omega); intro v140 w50 ho hb hg hat; rw [← Ny139.out] at ho; have n0_ := Aside0.mk (Kd.V_afterv (ok := (fun _ => True)) (by (with_reducible repeat (first | apply Kd.V_alloc | apply Kd.V_drewN | apply Kd.V_drew)); exact Kd.V_mono HO_8.out (fun _ hk => ⟨trivial, hk⟩)) hg hat); have n1_ := Aside0.mk (hb); have n2_ := Aside0.mk (ho); clear HO_8; clear HB; clear HO_3; have HO_8 := n0_; have HB := n1_; have HO141 := n2_; clear n0_ n1_ n2_; clear ho hb hg hat; have hcv51 := own_string (P := Tryd.prog) Tryd.underlying37 Tryd.underlying5 Tryd.underlying9 (Kd.own_of_R HO141.out)))
              go_ret
              exact ⟨by first | rfl | (simp [errW_none, errW_some] <;> rfl) | (simp [*, errW_none, errW_some] <;> rfl), by repeat (first | (with_reducible first | exact HB.out | apply below_alloc | apply pw_below_drewN | apply below_drew1) | exact HB.out)⟩
          · rw [if_neg c49] at H
            exact absurd H (by simp)
  · rw [if_neg c2] at H
    exact absurd H (by simp)

/-! ### verbatimlaw17_head: function 9 -/
def verbatimlaw17_head.f (k : Nat)  : Option (Bool) := (lexer_Split.f k (⟨#[94, 34, 97, 92, 120, 48, 97, 34]⟩ : ByteArray)).bind fun bt164 => ((lexer_Split.f k (⟨#[65, 78, 68, 32, 79, 114]⟩ : ByteArray)).bind fun bt169 => (if bt164.2.1 = 0 then (if (bt164.1.length : Int) = 2 then (if 0 < (bt164.1.length : Int) then (if ((rd_T33 bt164.1 0).f0) = 5 then (if 1 < (bt164.1.length : Int) then (if ((rd_T33 bt164.1 1).f2).toList = ([97, 10] : List UInt8) then (if ((rd_T33 bt164.1 1).f1) = 1 then (if bt169.2.1 = 171 then (if bt169.2.2 = 4 then ((lexer_Quote.f k (⟨#[97, 10]⟩ : ByteArray)).bind fun t177 => (some (t177.toList == ([34, 97, 92, 120, 48, 97, 34] : List UInt8)))) else (some false)) else (some false)) else (some false)) else (some false)) else (none)) else (some false)) else (none)) else (some false)) else (some false)))
theorem verbatimlaw17_head.mono : ∀ k, LeO (verbatimlaw17_head.f k ) (verbatimlaw17_head.f (k + 1) ) := by
  intro  k
  unfold verbatimlaw17_head.f
  repeat' first
      | (with_reducible exact lexer_Quote.mono _ _)
      | (with_reducible exact lexer_Split.mono _ _)
      | (with_reducible exact LeO.refl _)
      | (with_reducible exact LeO.none _)
      | (with_reducible refine LeO.ite ?_ ?_)
      | (with_reducible refine LeO.bind ?_ (fun _ => ?_))
      | exact lexer_Quote.mono _ _
      | exact lexer_Split.mono _ _
      | exact LeO.none _
      | refine LeO.ite ?_ ?_
      | refine LeO.bind ?_ (fun _ => ?_)
set_option maxHeartbeats 8000000 in
set_option maxRecDepth 100000 in
theorem verbatimlaw17_head.calls (k : Nat)  (r : Bool) (w : World) (h : verbatimlaw17_head.f k  = some r) :
    Calls Tryd.prog 9 #[] w fun e w' => e = .returned (.bool r) ∧ Below w.heap.size w w' := by
  have HB := Aside0.mk (Below.refl w.heap.size w)
  have H : ((lexer_Split.f k (⟨#[94, 34, 97, 92, 120, 48, 97, 34]⟩ : ByteArray)).bind fun bt164 => ((lexer_Split.f k (⟨#[65, 78, 68, 32, 79, 114]⟩ : ByteArray)).bind fun bt169 => (if bt164.2.1 = 0 then (if (bt164.1.length : Int) = 2 then (if 0 < (bt164.1.length : Int) then (if ((rd_T33 bt164.1 0).f0) = 5 then (if 1 < (bt164.1.length : Int) then (if ((rd_T33 bt164.1 1).f2).toList = ([97, 10] : List UInt8) then (if ((rd_T33 bt164.1 1).f1) = 1 then (if bt169.2.1 = 171 then (if bt169.2.2 = 4 then ((lexer_Quote.f k (⟨#[97, 10]⟩ : ByteArray)).bind fun t177 => (some (t177.toList == ([34, 97, 92, 120, 48, 97, 34] : List UInt8)))) else (some false)) else (some false)) else (some false)) else (some false)) else (none)) else (some false)) else (none)) else (some false)) else (some false)))) = some r := h
  clear h
  replace H := Option.bind_eq_some_iff.mp H
  obtain ⟨⟨t164, t165, t166⟩, A10, H⟩ := H
  replace H : ((lexer_Split.f k (⟨#[65, 78, 68, 32, 79, 114]⟩ : ByteArray)).bind fun bt169 => (if t165 = 0 then (if (t164.length : Int) = 2 then (if 0 < (t164.length : Int) then (if ((rd_T33 t164 0).f0) = 5 then (if 1 < (t164.length : Int) then (if ((rd_T33 t164 1).f2).toList = ([97, 10] : List UInt8) then (if ((rd_T33 t164 1).f1) = 1 then (if bt169.2.1 = 171 then (if bt169.2.2 = 4 then ((lexer_Quote.f k (⟨#[97, 10]⟩ : ByteArray)).bind fun t177 => (some (t177.toList == ([34, 97, 92, 120, 48, 97, 34] : List UInt8)))) else (some false)) else (some false)) else (some false)) else (some false)) else (none)) else (some false)) else (none)) else (some false)) else (some false))) = some r := H
  have A1 := Aside0.mk A10
  clear A10
  replace H := Option.bind_eq_some_iff.mp H
  obtain ⟨⟨t169, t170, t171⟩, A20, H⟩ := H
  replace H : (if t165 = 0 then (if (t164.length : Int) = 2 then (if 0 < (t164.length : Int) then (if ((rd_T33 t164 0).f0) = 5 then (if 1 < (t164.length : Int) then (if ((rd_T33 t164 1).f2).toList = ([97, 10] : List UInt8) then (if ((rd_T33 t164 1).f1) = 1 then (if t170 = 171 then (if t171 = 4 then ((lexer_Quote.f k (⟨#[97, 10]⟩ : ByteArray)).bind fun t177 => (some (t177.toList == ([34, 97, 92, 120, 48, 97, 34] : List UInt8)))) else (some false)) else (some false)) else (some false)) else (some false)) else (none)) else (some false)) else (none)) else (some false)) else (some false)) = some r := H
  have A2 := Aside0.mk A20
  clear A20
  by_cases c3 : t165 = 0
  · rw [if_pos c3] at H
    have c3b0 : (t165 == 0) = true := beq_iff_eq.mpr c3
    have c3b1 : (t165 != 0) = false := bne_eq_false_iff_eq.mpr c3
    clear c3
    by_cases c4 : (t164.length : Int) = 2
    · rw [if_pos c4] at H
      have c4b0 : ((t164.length : Int) == 2) = true := beq_iff_eq.mpr c4
      have c4b1 : ((t164.length : Int) != 2) = false := bne_eq_false_iff_eq.mpr c4
      clear c4
      by_cases c5 : 0 < (t164.length : Int)
      · rw [if_pos c5] at H
        have c5b0 : decide (0 < (t164.length : Int)) = true := decide_eq_true c5
        have c5b1 : decide (0 < t164.length) = true := decide_eq_true (by omega)
        clear c5
        by_cases c6 : ((rd_T33 t164 0).f0) = 5
        · rw [if_pos c6] at H
          have c6b0 : (((rd_T33 t164 0).f0) == 5) = true := beq_iff_eq.mpr c6
          have c6b1 : (((rd_T33 t164 0).f0) != 5) = false := bne_eq_false_iff_eq.mpr c6
          clear c6
          by_cases c7 : 1 < (t164.length : Int)
          · rw [if_pos c7] at H
            have c7b0 : decide (1 < (t164.length : Int)) = true := decide_eq_true c7
            have c7b1 : decide (1 < t164.length) = true := decide_eq_true (by omega)
            clear c7
            by_cases c8 : ((rd_T33 t164 1).f2).toList = ([97, 10] : List UInt8)
            · rw [if_pos c8] at H
              have c8b0 : (((rd_T33 t164 1).f2).toList == ([97, 10] : List UInt8)) = true := beq_iff_eq.mpr c8
              have c8b1 : (((rd_T33 t164 1).f2).toList != ([97, 10] : List UInt8)) = false := bne_eq_false_iff_eq.mpr c8
              clear c8
              by_cases c9 : ((rd_T33 t164 1).f1) = 1
              · rw [if_pos c9] at H
                have c9b0 : (((rd_T33 t164 1).f1) == 1) = true := beq_iff_eq.mpr c9
                have c9b1 : (((rd_T33 t164 1).f1) != 1) = false := bne_eq_false_iff_eq.mpr c9
                clear c9
                by_cases c10 : t170 = 171
                · rw [if_pos c10] at H
                  have c10b0 : (t170 == 171) = true := beq_iff_eq.mpr c10
                  have c10b1 : (t170 != 171) = false := bne_eq_false_iff_eq.mpr c10
                  clear c10
                  by_cases c11 : t171 = 4
                  · rw [if_pos c11] at H
                    have c11b0 : (t171 == 4) = true := beq_iff_eq.mpr c11
                    have c11b1 : (t171 != 4) = false := bne_eq_false_iff_eq.mpr c11
                    clear c11
                    replace H := Option.bind_eq_some_iff.mp H
                    obtain ⟨t177, A120, H⟩ := H
                    replace H : (some (t177.toList == ([34, 97, 92, 120, 48, 97, 34] : List UInt8))) = some r := H
                    have A12 := Aside0.mk A120
                    clear A120
                    as_aux_lemma =>
                      obtain rfl := Option.some.inj H
                      go_enter Tryd.func9, Tryd.ntmps9
                      go_wp2_with (first | ((with_reducible refine gate_callee (f := 10) rfl ?_); refine goesL_ (some 8) rfl rfl Tryd.func10 (by kernel_rfl) rfl #[.string (⟨#[94, 34, 97, 92, 120, 48, 97, 34]⟩ : ByteArray)] rfl (by (try simp only [List.map_toArray, List.map_cons, List.map_nil]); first | done | rfl | (simp only [List.length_drop, List.length_take]; rfl)) ?_; (with_reducible refine (lexer_Split.calls k (⟨#[94, 34, 97, 92, 120, 48, 97, 34]⟩ : ByteArray) t164 t165 t166 _ A1.out).mono ?_); rintro e w13 ⟨v167, rfl, ho0, hb⟩; refine ⟨_, rfl, ?_⟩; have n0_ := Aside0.mk (Kd.R_lower ho0 (below_size (by repeat (first | (with_reducible first | exact HB.out | apply below_alloc | apply pw_below_drewN | apply below_drew1) | exact HB.out)))); have n1_ := Aside0.mk (below_step (by repeat (first | (with_reducible first | exact HB.out | apply below_alloc | apply pw_below_drewN | apply below_drew1) | exact HB.out)) hb); clear HB; have HO168 := n0_; have HB := n1_; clear n0_ n1_; (try clear hb); (try clear hb2); (try clear hk); (try clear hi); (try clear ho0)) | ((with_reducible refine gate_callee (f := 10) rfl ?_); refine goesL_ (some 13) rfl rfl Tryd.func10 (by kernel_rfl) rfl #[.string (⟨#[65, 78, 68, 32, 79, 114]⟩ : ByteArray)] rfl (by (try simp only [List.map_toArray, List.map_cons, List.map_nil]); first | done | rfl | (simp only [List.length_drop, List.length_take]; rfl)) ?_; (with_reducible refine (lexer_Split.calls k (⟨#[65, 78, 68, 32, 79, 114]⟩ : ByteArray) t169 t170 t171 _ A2.out).mono ?_); rintro e w14 ⟨v172, rfl, ho0, hb⟩; refine ⟨_, rfl, ?_⟩; have n0_ := Aside0.mk (Kd.R_elder' (by (with_reducible repeat (first | apply Kd.R_alloc | apply Kd.R_drewN | apply Kd.R_drew)); exact HO168.out) (Kd.R_base ho0) hb); have n1_ := Aside0.mk (Kd.R_lower (Kd.R_new' ho0 (Kd.R_lt (by (with_reducible repeat (first | apply Kd.R_alloc | apply Kd.R_drewN | apply Kd.R_drew)); exact HO168.out))) (below_size (by repeat (first | (with_reducible first | exact HB.out | apply below_alloc | apply pw_below_drewN | apply below_drew1) | exact HB.out)))); have n2_ := Aside0.mk (below_step (by repeat (first | (with_reducible first | exact HB.out | apply below_alloc | apply pw_below_drewN | apply below_drew1) | exact HB.out)) hb); clear HO168; clear HB; have HO168 := n0_; have HO173 := n1_; have HB := n2_; clear n0_ n1_ n2_; (try clear hb); (try clear hb2); (try clear hk); (try clear hi); (try clear ho0); obtain ⟨Ao15, co15, eo15⟩ := Kd.R_slice HO168.out; subst eo15; have p174 : 0 ≤ (0 : Int) := (by omega); have q174 : 0 < (t164.length : Int) := of_decide_eq_true (by first | (with_reducible assumption) | assumption); obtain ⟨ad174, e174, hx174_0, hx174_1, hx174_2⟩ := at_T33 (Kd.R_reads' HO168.out).2.2 0 p174 q174; cases e174; have qi174 : (0 < t164.length) = True := eq_true (by omega); (try rw [show ((0 : Int)).toNat = 0 from rfl] at hx174_0); (try rw [show 0 * 3 = 0 from rfl] at hx174_0); (try rw [Addr.add_zero'] at hx174_0); (try rw [show ((0 : Int)).toNat = 0 from rfl] at hx174_1); (try rw [show 0 * 3 = 0 from rfl] at hx174_1); (try rw [Addr.add_zero'] at hx174_1); (try rw [show ((0 : Int)).toNat = 0 from rfl] at hx174_2); (try rw [show 0 * 3 = 0 from rfl] at hx174_2); (try rw [Addr.add_zero'] at hx174_2); replace p174 := eq_true p174; replace q174 := eq_true q174; have p175 : 0 ≤ (1 : Int) := (by omega); have q175 : 1 < (t164.length : Int) := of_decide_eq_true (by first | (with_reducible assumption) | assumption); obtain ⟨ad175, e175, hx175_0, hx175_1, hx175_2⟩ := at_T33 (Kd.R_reads' HO168.out).2.2 1 p175 q175; obtain rfl : ad174 = ad175 := (by injection e175); (try simp only [show (1 : Int).toNat = 1 from rfl, Nat.reduceMul, Nat.reduceEqDiff, Go.Addr.add, ↓reduceIte] at hx175_0); (try simp only [show (1 : Int).toNat = 1 from rfl, Nat.reduceMul, Nat.reduceEqDiff, Go.Addr.add, ↓reduceIte] at hx175_1); (try simp only [show (1 : Int).toNat = 1 from rfl, Nat.reduceMul, Nat.reduceEqDiff, Go.Addr.add, ↓reduceIte] at hx175_2); have qi175 : (1 < t164.length) = True := eq_true (by omega); (try rw [show ((1 : Int)).toNat = 1 from rfl] at hx175_0); (try rw [show 1 * 3 = 3 from rfl] at hx175_0); (try rw [show ((1 : Int)).toNat = 1 from rfl] at hx175_1); (try rw [show 1 * 3 = 3 from rfl] at hx175_1); (try rw [show ((1 : Int)).toNat = 1 from rfl] at hx175_2); (try rw [show 1 * 3 = 3 from rfl] at hx175_2); replace p175 := eq_true p175; replace q175 := eq_true q175; have p176 : 0 ≤ (1 : Int) := (by omega); have q176 : 1 < (t164.length : Int) := of_decide_eq_true (by first | (with_reducible assumption) | assumption); obtain ⟨ad176, e176, hx176_0, hx176_1, hx176_2⟩ := at_T33 (Kd.R_reads' HO168.out).2.2 1 p176 q176; obtain rfl : ad174 = ad176 := (by injection e176); (try simp only [show (1 : Int).toNat = 1 from rfl, Nat.reduceMul, Nat.reduceEqDiff, Go.Addr.add, ↓reduceIte] at hx176_0); (try simp only [show (1 : Int).toNat = 1 from rfl, Nat.reduceMul, Nat.reduceEqDiff, Go.Addr.add, ↓reduceIte] at hx176_1); (try simp only [show (1 : Int).toNat = 1 from rfl, Nat.reduceMul, Nat.reduceEqDiff, Go.Addr.add, ↓reduceIte] at hx176_2); have qi176 : (1 < t164.length) = True := eq_true (by omega); (try rw [show ((1 : Int)).toNat = 1 from rfl] at hx176_0); (try rw [show 1 * 3 = 3 from rfl] at hx176_0); (try rw [show ((1 : Int)).toNat = 1 from rfl] at hx176_1); (try rw [show 1 * 3 = 3 from rfl] at hx176_1); (try rw [show ((1 : Int)).toNat = 1 from rfl] at hx176_2); (try rw [show 1 * 3 = 3 from rfl] at hx176_2); replace p176 := eq_true p176; replace q176 := eq_true q176) | (go_at_call 13; (with_reducible refine (lexer_Quote.calls k (⟨#[97, 10]⟩ : ByteArray) t177 _ A12.out).mono ?_); rintro e w16 ⟨rfl, hb⟩; have n0_ := Aside0.mk (Kd.R_below (by (with_reducible repeat (first | apply Kd.R_alloc | apply Kd.R_drewN | apply Kd.R_drew)); exact HO168.out) hb); have n1_ := Aside0.mk (Kd.R_below (by (with_reducible repeat (first | apply Kd.R_alloc | apply Kd.R_drewN | apply Kd.R_drew)); exact HO173.out) hb); have n2_ := Aside0.mk (below_step (by repeat (first | (with_reducible first | exact HB.out | apply below_alloc | apply pw_below_drewN | apply below_drew1) | exact HB.out)) hb); clear HO168; clear HO173; clear HB; have HO168 := n0_; have HO173 := n1_; have HB := n2_; clear n0_ n1_ n2_; (try clear hb); (try clear hb2); (try clear hk); (try clear hi)))
                      go_ret
                      exact ⟨by first | rfl | (simp [errW_none, errW_some] <;> rfl) | (simp [*, errW_none, errW_some] <;> rfl), by repeat (first | (with_reducible first | exact HB.out | apply below_alloc | apply pw_below_drewN | apply below_drew1) | exact HB.out)⟩
                  · rw [if_neg c11] at H
                    have c11b0 : (t171 == 4) = false := beq_eq_false_iff_ne.mpr c11
                    have c11b1 : (t171 != 4) = true := bne_iff_ne.mpr c11
                    as_aux_lemma =>
                      obtain rfl := Option.some.inj H
                      go_enter Tryd.func9, Tryd.ntmps9
                      go_wp2_with (first | ((with_reducible refine gate_callee (f := 10) rfl ?_); refine goesL_ (some 8) rfl rfl Tryd.func10 (by kernel_rfl) rfl #[.string (⟨#[94, 34, 97, 92, 120, 48, 97, 34]⟩ : ByteArray)] rfl (by (try simp only [List.map_toArray, List.map_cons, List.map_nil]); first | done | rfl | (simp only [List.length_drop, List.length_take]; rfl)) ?_; (with_reducible refine (lexer_Split.calls k (⟨#[94, 34, 97, 92, 120, 48, 97, 34]⟩ : ByteArray) t164 t165 t166 _ A1.out).mono ?_); rintro e w17 ⟨v167, rfl, ho0, hb⟩; refine ⟨_, rfl, ?_⟩; have n0_ := Aside0.mk (Kd.R_lower ho0 (below_size (by repeat (first | (with_reducible first | exact HB.out | apply below_alloc | apply pw_below_drewN | apply below_drew1) | exact HB.out)))); have n1_ := Aside0.mk (below_step (by repeat (first | (with_reducible first | exact HB.out | apply below_alloc | apply pw_below_drewN | apply below_drew1) | exact HB.out)) hb); clear HB; have HO168 := n0_; have HB := n1_; clear n0_ n1_; (try clear hb); (try clear hb2); (try clear hk); (try clear hi); (try clear ho0)) | ((with_reducible refine gate_callee (f := 10) rfl ?_); refine goesL_ (some 13) rfl rfl Tryd.func10 (by kernel_rfl) rfl #[.string (⟨#[65, 78, 68, 32, 79, 114]⟩ : ByteArray)] rfl (by (try simp only [List.map_toArray, List.map_cons, List.map_nil]); first | done | rfl | (simp only [List.length_drop, List.length_take]; rfl)) ?_; (with_reducible refine (lexer_Split.calls k (⟨#[65, 78, 68, 32, 79, 114]⟩ : ByteArray) t169 t170 t171 _ A2.out).mono ?_); rintro e w18 ⟨v172, rfl, ho0, hb⟩; refine ⟨_, rfl, ?_⟩; have n0_ := Aside0.mk (Kd.R_elder' (by (with_reducible repeat (first | apply Kd.R_alloc | apply Kd.R_drewN | apply Kd.R_drew)); exact HO168.out) (Kd.R_base ho0) hb); have n1_ := Aside0.mk (Kd.R_lower (Kd.R_new' ho0 (Kd.R_lt (by (with_reducible repeat (first | apply Kd.R_alloc | apply Kd.R_drewN | apply Kd.R_drew)); exact HO168.out))) (below_size (by repeat (first | (with_reducible first | exact HB.out | apply below_alloc | apply pw_below_drewN | apply below_drew1) | exact HB.out)))); have n2_ := Aside0.mk (below_step (by repeat (first | (with_reducible first | exact HB.out | apply below_alloc | apply pw_below_drewN | apply below_drew1) | exact HB.out)) hb); clear HO168; clear HB; have HO168 := n0_; have HO173 := n1_; have HB := n2_; clear n0_ n1_ n2_; (try clear hb); (try clear hb2); (try clear hk); (try clear hi); (try clear ho0); obtain ⟨Ao19, co19, eo19⟩ := Kd.R_slice HO168.out; subst eo19; have p174 : 0 ≤ (0 : Int) := (by omega); have q174 : 0 < (t164.length : Int) := of_decide_eq_true (by first | (with_reducible assumption) | assumption); obtain ⟨ad174, e174, hx174_0, hx174_1, hx174_2⟩ := at_T33 (Kd.R_reads' HO168.out).2.2 0 p174 q174; cases e174; have qi174 : (0 < t164.length) = True := eq_true (by omega); (try rw [show ((0 : Int)).toNat = 0 from rfl] at hx174_0); (try rw [show 0 * 3 = 0 from rfl] at hx174_0); (try rw [Addr.add_zero'] at hx174_0); (try rw [show ((0 : Int)).toNat = 0 from rfl] at hx174_1); (try rw [show 0 * 3 = 0 from rfl] at hx174_1); (try rw [Addr.add_zero'] at hx174_1); (try rw [show ((0 : Int)).toNat = 0 from rfl] at hx174_2); (try rw [show 0 * 3 = 0 from rfl] at hx174_2); (try rw [Addr.add_zero'] at hx174_2); replace p174 := eq_true p174; replace q174 := eq_true q174; have p175 : 0 ≤ (1 : Int) := (by omega); have q175 : 1 < (t164.length : Int) := of_decide_eq_true (by first | (with_reducible assumption) | assumption); obtain ⟨ad175, e175, hx175_0, hx175_1, hx175_2⟩ := at_T33 (Kd.R_reads' HO168.out).2.2 1 p175 q175; obtain rfl : ad174 = ad175 := (by injection e175); (try simp only [show (1 : Int).toNat = 1 from rfl, Nat.reduceMul, Nat.reduceEqDiff, Go.Addr.add, ↓reduceIte] at hx175_0); (try simp only [show (1 : Int).toNat = 1 from rfl, Nat.reduceMul, Nat.reduceEqDiff, Go.Addr.add, ↓reduceIte] at hx175_1); (try simp only [show (1 : Int).toNat = 1 from rfl, Nat.reduceMul, Nat.reduceEqDiff, Go.Addr.add, ↓reduceIte] at hx175_2); have qi175 : (1 < t164.length) = True := eq_true (by omega); (try rw [show ((1 : Int)).toNat = 1 from rfl] at hx175_0); (try rw [show 1 * 3 = 3 from rfl] at hx175_0); (try rw [show ((1 : Int)).toNat = 1 from rfl] at hx175_1); (try rw [show 1 * 3 = 3 from rfl] at hx175_1); (try rw [show ((1 : Int)).toNat = 1 from rfl] at hx175_2); (try rw [show 1 * 3 = 3 from rfl] at hx175_2); replace p175 := eq_true p175; replace q175 := eq_true q175; have p176 : 0 ≤ (1 : Int) := (by omega); have q176 : 1 < (t164.length : Int) := of_decide_eq_true (by first | (with_reducible assumption) | assumption); obtain ⟨ad176, e176, hx176_0, hx176_1, hx176_2⟩ := at_T33 (Kd.R_reads' HO168.out).2.2 1 p176 q176; obtain rfl : ad174 = ad176 := (by injection e176); (try simp only [show (1 : Int).toNat = 1 from rfl, Nat.reduceMul, Nat.reduceEqDiff, Go.Addr.add, ↓reduceIte] at hx176_0); (try simp only [show (1 : Int).toNat = 1 from rfl, Nat.reduceMul, Nat.reduceEqDiff, Go.Addr.add, ↓reduceIte] at hx176_1); (try simp only [show (1 : Int).toNat = 1 from rfl, Nat.reduceMul, Nat.reduceEqDiff, Go.Addr.add, ↓reduceIte] at hx176_2); have qi176 : (1 < t164.length) = True := eq_true (by omega); (try rw [show ((1 : Int)).toNat = 1 from rfl] at hx176_0); (try rw [show 1 * 3 = 3 from rfl] at hx176_0); (try rw [show ((1 : Int)).toNat = 1 from rfl] at hx176_1); (try rw [show 1 * 3 = 3 from rfl] at hx176_1); (try rw [show ((1 : Int)).toNat = 1 from rfl] at hx176_2); (try rw [show 1 * 3 = 3 from rfl] at hx176_2); replace p176 := eq_true p176; replace q176 := eq_true q176))
                      go_ret
                      exact ⟨by first | rfl | (simp [errW_none, errW_some] <;> rfl) | (simp [*, errW_none, errW_some] <;> rfl), by repeat (first | (with_reducible first | exact HB.out | apply below_alloc | apply pw_below_drewN | apply below_drew1) | exact HB.out)⟩
                · rw [if_neg c10] at H
                  have c10b0 : (t170 == 171) = false := beq_eq_false_iff_ne.mpr c10
                  have c10b1 : (t170 != 171) = true := bne_iff_ne.mpr c10
                  as_aux_lemma =>
                    obtain rfl := Option.some.inj H
                    go_enter Tryd.func9, Tryd.ntmps9
                    go_wp2_with (first | ((with_reducible refine gate_callee (f := 10) rfl ?_); refine goesL_ (some 8) rfl rfl Tryd.func10 (by kernel_rfl) rfl #[.string (⟨#[94, 34, 97, 92, 120, 48, 97, 34]⟩ : ByteArray)] rfl (by (try simp only [List.map_toArray, List.map_cons, List.map_nil]); first | done | rfl | (simp only [List.length_drop, List.length_take]; rfl)) ?_; (with_reducible refine (lexer_Split.calls k (⟨#[94, 34, 97, 92, 120, 48, 97, 34]⟩ : ByteArray) t164 t165 t166 _ A1.out).mono ?_); rintro e w20 ⟨v167, rfl, ho0, hb⟩; refine ⟨_, rfl, ?_⟩; have n0_ := Aside0.mk (Kd.R_lower ho0 (below_size (by repeat (first | (with_reducible first | exact HB.out | apply below_alloc | apply pw_below_drewN | apply below_drew1) | exact HB.out)))); have n1_ := Aside0.mk (below_step (by repeat (first | (with_reducible first | exact HB.out | apply below_alloc | apply pw_below_drewN | apply below_drew1) | exact HB.out)) hb); clear HB; have HO168 := n0_; have HB := n1_; clear n0_ n1_; (try clear hb); (try clear hb2); (try clear hk); (try clear hi); (try clear ho0)) | ((with_reducible refine gate_callee (f := 10) rfl ?_); refine goesL_ (some 13) rfl rfl Tryd.func10 (by kernel_rfl) rfl #[.string (⟨#[65, 78, 68, 32, 79, 114]⟩ : ByteArray)] rfl (by (try simp only [List.map_toArray, List.map_cons, List.map_nil]); first | done | rfl | (simp only [List.length_drop, List.length_take]; rfl)) ?_; (with_reducible refine (lexer_Split.calls k (⟨#[65, 78, 68, 32, 79, 114]⟩ : ByteArray) t169 t170 t171 _ A2.out).mono ?_); rintro e w21 ⟨v172, rfl, ho0, hb⟩; refine ⟨_, rfl, ?_⟩; have n0_ := Aside0.mk (Kd.R_elder' (by (with_reducible repeat (first | apply Kd.R_alloc | apply Kd.R_drewN | apply Kd.R_drew)); exact HO168.out) (Kd.R_base ho0) hb); have n1_ := Aside0.mk (Kd.R_lower (Kd.R_new' ho0 (Kd.R_lt (by (with_reducible repeat (first | apply Kd.R_alloc | apply Kd.R_drewN | apply Kd.R_drew)); exact HO168.out))) (below_size (by repeat (first | (with_reducible first | exact HB.out | apply below_alloc | apply pw_below_drewN | apply below_drew1) | exact HB.out)))); have n2_ := Aside0.mk (below_step (by repeat (first | (with_reducible first | exact HB.out | apply below_alloc | apply pw_below_drewN | apply below_drew1) | exact HB.out)) hb); clear HO168; clear HB; have HO168 := n0_; have HO173 := n1_; have HB := n2_; clear n0_ n1_ n2_; (try clear hb); (try clear hb2); (try clear hk); (try clear hi); (try clear ho0); obtain ⟨Ao22, co22, eo22⟩ := Kd.R_slice HO168.out; subst eo22; have p174 : 0 ≤ (0 : Int) := (by omega); have q174 : 0 < (t164.length : Int) := of_decide_eq_true (by first | (with_reducible assumption) | assumption); obtain ⟨ad174, e174, hx174_0, hx174_1, hx174_2⟩ := at_T33 (Kd.R_reads' HO168.out).2.2 0 p174 q174; cases e174; have qi174 : (0 < t164.length) = True := eq_true (by omega); (try rw [show ((0 : Int)).toNat = 0 from rfl] at hx174_0); (try rw [show 0 * 3 = 0 from rfl] at hx174_0); (try rw [Addr.add_zero'] at hx174_0); (try rw [show ((0 : Int)).toNat = 0 from rfl] at hx174_1); (try rw [show 0 * 3 = 0 from rfl] at hx174_1); (try rw [Addr.add_zero'] at hx174_1); (try rw [show ((0 : Int)).toNat = 0 from rfl] at hx174_2); (try rw [show 0 * 3 = 0 from rfl] at hx174_2); (try rw [Addr.add_zero'] at hx174_2); replace p174 := eq_true p174; replace q174 := eq_true q174; have p175 : 0 ≤ (1 : Int) := (by omega); have q175 : 1 < (t164.length : Int) := of_decide_eq_true (by first | (with_reducible assumption) | assumption); obtain ⟨ad175, e175, hx175_0, hx175_1, hx175_2⟩ := at_T33 (Kd.R_reads' HO168.out).2.2 1 p175 q175; obtain rfl : ad174 = ad175 := (by injection e175); (try simp only [show (1 : Int).toNat = 1 from rfl, Nat.reduceMul, Nat.reduceEqDiff, Go.Addr.add, ↓reduceIte] at hx175_0); (try simp only [show (1 : Int).toNat = 1 from rfl, Nat.reduceMul, Nat.reduceEqDiff, Go.Addr.add, ↓reduceIte] at hx175_1); (try simp only [show (1 : Int).toNat = 1 from rfl, Nat.reduceMul, Nat.reduceEqDiff, Go.Addr.add, ↓reduceIte] at hx175_2); have qi175 : (1 < t164.length) = True := eq_true (by omega); (try rw [show ((1 : Int)).toNat = 1 from rfl] at hx175_0); (try rw [show 1 * 3 = 3 from rfl] at hx175_0); (try rw [show ((1 : Int)).toNat = 1 from rfl] at hx175_1); (try rw [show 1 * 3 = 3 from rfl] at hx175_1); (try rw [show ((1 : Int)).toNat = 1 from rfl] at hx175_2); (try rw [show 1 * 3 = 3 from rfl] at hx175_2); replace p175 := eq_true p175; replace q175 := eq_true q175; have p176 : 0 ≤ (1 : Int) := (by omega); have q176 : 1 < (t164.length : Int) := of_decide_eq_true (by first | (with_reducible assumption) | assumption); obtain ⟨ad176, e176, hx176_0, hx176_1, hx176_2⟩ := at_T33 (Kd.R_reads' HO168.out).2.2 1 p176 q176; obtain rfl : ad174 = ad176 := (by injection e176); (try simp only [show (1 : Int).toNat = 1 from rfl, Nat.reduceMul, Nat.reduceEqDiff, Go.Addr.add, ↓reduceIte] at hx176_0); (try simp only [show (1 : Int).toNat = 1 from rfl, Nat.reduceMul, Nat.reduceEqDiff, Go.Addr.add, ↓reduceIte] at hx176_1); (try simp only [show (1 : Int).toNat = 1 from rfl, Nat.reduceMul, Nat.reduceEqDiff, Go.Addr.add, ↓reduceIte] at hx176_2); have qi176 : (1 < t164.length) = True := eq_true (by omega); (try rw [show ((1 : Int)).toNat = 1 from rfl] at hx176_0); (try rw [show 1 * 3 = 3 from rfl] at hx176_0); (try rw [show ((1 : Int)).toNat = 1 from rfl] at hx176_1); (try rw [show 1 * 3 = 3 from rfl] at hx176_1); (try rw [show ((1 : Int)).toNat = 1 from rfl] at hx176_2); (try rw [show 1 * 3 = 3 from rfl] at hx176_2); replace p176 := eq_true p176; replace q176 := eq_true q176))
                    go_ret
                    exact ⟨by first | rfl | (simp [errW_none, errW_some] <;> rfl) | (simp [*, errW_none, errW_some] <;> rfl), by repeat (first | (with_reducible first | exact HB.out | apply below_alloc | apply pw_below_drewN | apply below_drew1) | exact HB.out)⟩
              · rw [if_neg c9] at H
                have c9b0 : (((rd_T33 t164 1).f1) == 1) = false := beq_eq_false_iff_ne.mpr c9
                have c9b1 : (((rd_T33 t164 1).f1) != 1) = true := bne_iff_ne.mpr c9
                as_aux_lemma =>
                  obtain rfl := Option.some.inj H
                  go_enter Tryd.func9, Tryd.ntmps9
                  go_wp2_with (first | ((with_reducible refine gate_callee (f := 10) rfl ?_); refine goesL_ (some 8) rfl rfl Tryd.func10 (by kernel_rfl) rfl #[.string (⟨#[94, 34, 97, 92, 120, 48, 97, 34]⟩ : ByteArray)] rfl (by (try simp only [List.map_toArray, List.map_cons, List.map_nil]); first | done | rfl | (simp only [List.length_drop, List.length_take]; rfl)) ?_; (with_reducible refine (lexer_Split.calls k (⟨#[94, 34, 97, 92, 120, 48, 97, 34]⟩ : ByteArray) t164 t165 t166 _ A1.out).mono ?_); rintro e w23 ⟨v167, rfl, ho0, hb⟩; refine ⟨_, rfl, ?_⟩; have n0_ := Aside0.mk (Kd.R_lower ho0 (below_size (by repeat (first | (with_reducible first | exact HB.out | apply below_alloc | apply pw_below_drewN | apply below_drew1) | exact HB.out)))); have n1_ := Aside0.mk (below_step (by repeat (first | (with_reducible first | exact HB.out | apply below_alloc | apply pw_below_drewN | apply below_drew1) | exact HB.out)) hb); clear HB; have HO168 := n0_; have HB := n1_; clear n0_ n1_; (try clear hb); (try clear hb2); (try clear hk); (try clear hi); (try clear ho0)) | ((with_reducible refine gate_callee (f := 10) rfl ?_); refine goesL_ (some 13) rfl rfl Tryd.func10 (by kernel_rfl) rfl #[.string (⟨#[65, 78, 68, 32, 79, 114]⟩ : ByteArray)] rfl (by (try simp only [List.map_toArray, List.map_cons, List.map_nil]); first | done | rfl | (simp only [List.length_drop, List.length_take]; rfl)) ?_; (with_reducible refine (lexer_Split.calls k (⟨#[65, 78, 68, 32, 79, 114]⟩ : ByteArray) t169 t170 t171 _ A2.out).mono ?_); rintro e w24 ⟨v172, rfl, ho0, hb⟩; refine ⟨_, rfl, ?_⟩; have n0_ := Aside0.mk (Kd.R_elder' (by (with_reducible repeat (first | apply Kd.R_alloc | apply Kd.R_drewN | apply Kd.R_drew)); exact HO168.out) (Kd.R_base ho0) hb); have n1_ := Aside0.mk (Kd.R_lower (Kd.R_new' ho0 (Kd.R_lt (by (with_reducible repeat (first | apply Kd.R_alloc | apply Kd.R_drewN | apply Kd.R_drew)); exact HO168.out))) (below_size (by repeat (first | (with_reducible first | exact HB.out | apply below_alloc | apply pw_below_drewN | apply below_drew1) | exact HB.out)))); have n2_ := Aside0.mk (below_step (by repeat (first | (with_reducible first | exact HB.out | apply below_alloc | apply pw_below_drewN | apply below_drew1) | exact HB.out)) hb); clear HO168; clear HB; have HO168 := n0_; have HO173 := n1_; have HB := n2_; clear n0_ n1_ n2_; (try clear hb); (try clear hb2); (try clear hk); (try clear hi); (try clear ho0); obtain ⟨Ao25, co25, eo25⟩ := Kd.R_slice HO168.out; subst eo25; have p174 : 0 ≤ (0 : Int) := (by omega); have q174 : 0 < (t164.length : Int) := of_decide_eq_true (by first | (with_reducible assumption) | assumption); obtain ⟨ad174, e174, hx174_0, hx174_1, hx174_2⟩ := at_T33 (Kd.R_reads' HO168.out).2.2 0 p174 q174; cases e174; have qi174 : (0 < t164.length) = True := eq_true (by omega); (try rw [show ((0 : Int)).toNat = 0 from rfl] at hx174_0); (try rw [show 0 * 3 = 0 from rfl] at hx174_0); (try rw [Addr.add_zero'] at hx174_0); (try rw [show ((0 : Int)).toNat = 0 from rfl] at hx174_1); (try rw [show 0 * 3 = 0 from rfl] at hx174_1); (try rw [Addr.add_zero'] at hx174_1); (try rw [show ((0 : Int)).toNat = 0 from rfl] at hx174_2); (try rw [show 0 * 3 = 0 from rfl] at hx174_2); (try rw [Addr.add_zero'] at hx174_2); replace p174 := eq_true p174; replace q174 := eq_true q174; have p175 : 0 ≤ (1 : Int) := (by omega); have q175 : 1 < (t164.length : Int) := of_decide_eq_true (by first | (with_reducible assumption) | assumption); obtain ⟨ad175, e175, hx175_0, hx175_1, hx175_2⟩ := at_T33 (Kd.R_reads' HO168.out).2.2 1 p175 q175; obtain rfl : ad174 = ad175 := (by injection e175); (try simp only [show (1 : Int).toNat = 1 from rfl, Nat.reduceMul, Nat.reduceEqDiff, Go.Addr.add, ↓reduceIte] at hx175_0); (try simp only [show (1 : Int).toNat = 1 from rfl, Nat.reduceMul, Nat.reduceEqDiff, Go.Addr.add, ↓reduceIte] at hx175_1); (try simp only [show (1 : Int).toNat = 1 from rfl, Nat.reduceMul, Nat.reduceEqDiff, Go.Addr.add, ↓reduceIte] at hx175_2); have qi175 : (1 < t164.length) = True := eq_true (by omega); (try rw [show ((1 : Int)).toNat = 1 from rfl] at hx175_0); (try rw [show 1 * 3 = 3 from rfl] at hx175_0); (try rw [show ((1 : Int)).toNat = 1 from rfl] at hx175_1); (try rw [show 1 * 3 = 3 from rfl] at hx175_1); (try rw [show ((1 : Int)).toNat = 1 from rfl] at hx175_2); (try rw [show 1 * 3 = 3 from rfl] at hx175_2); replace p175 := eq_true p175; replace q175 := eq_true q175; have p176 : 0 ≤ (1 : Int) := (by omega); have q176 : 1 < (t164.length : Int) := of_decide_eq_true (by first | (with_reducible assumption) | assumption); obtain ⟨ad176, e176, hx176_0, hx176_1, hx176_2⟩ := at_T33 (Kd.R_reads' HO168.out).2.2 1 p176 q176; obtain rfl : ad174 = ad176 := (by injection e176); (try simp only [show (1 : Int).toNat = 1 from rfl, Nat.reduceMul, Nat.reduceEqDiff, Go.Addr.add, ↓reduceIte] at hx176_0); (try simp only [show (1 : Int).toNat = 1 from rfl, Nat.reduceMul, Nat.reduceEqDiff, Go.Addr.add, ↓reduceIte] at hx176_1); (try simp only [show (1 : Int).toNat = 1 from rfl, Nat.reduceMul, Nat.reduceEqDiff, Go.Addr.add, ↓reduceIte] at hx176_2); have qi176 : (1 < t164.length) = True := eq_true (by omega); (try rw [show ((1 : Int)).toNat = 1 from rfl] at hx176_0); (try rw [show 1 * 3 = 3 from rfl] at hx176_0); (try rw [show ((1 : Int)).toNat = 1 from rfl] at hx176_1); (try rw [show 1 * 3 = 3 from rfl] at hx176_1); (try rw [show ((1 : Int)).toNat = 1 from rfl] at hx176_2); (try rw [show 1 * 3 = 3 from rfl] at hx176_2); replace p176 := eq_true p176; replace q176 := eq_true q176))
                  go_ret
                  exact ⟨by first | rfl | (simp [errW_none, errW_some] <;> rfl) | (simp [*, errW_none, errW_some] <;> rfl), by repeat (first | (with_reducible first | exact HB.out | apply below_alloc | apply pw_below_drewN | apply below_drew1) | exact HB.out)⟩
            · rw [if_neg c8] at H
              have c8b0 : (((rd_T33 t164 1).f2).toList == ([97, 10] : List UInt8)) = false := beq_eq_false_iff_ne.mpr c8
              have c8b1 : (((rd_T33 t164 1).f2).toList != ([97, 10] : List UInt8)) = true := bne_iff_ne.mpr c8
              as_aux_lemma =>
                obtain rfl := Option.some.inj H
                go_enter Tryd.func9, Tryd.ntmps9
                go_wp2_with (first | ((with_reducible refine gate_callee (f := 10) rfl ?_); refine goesL_ (some 8) rfl rfl Tryd.func10 (by kernel_rfl) rfl #[.string (⟨#[94, 34, 97, 92, 120, 48, 97, 34]⟩ : ByteArray)] rfl (by (try simp only [List.map_toArray, List.map_cons, List.map_nil]); first | done | rfl | (simp only [List.length_drop, List.length_take]; rfl)) ?_; (with_reducible refine (lexer_Split.calls k (⟨#[94, 34, 97, 92, 120, 48, 97, 34]⟩ : ByteArray) t164 t165 t166 _ A1.out).mono ?_); rintro e w26 ⟨v167, rfl, ho0, hb⟩; refine ⟨_, rfl, ?_⟩; have n0_ := Aside0.mk (Kd.R_lower ho0 (below_size (by repeat (first | (with_reducible first | exact HB.out | apply below_alloc | apply pw_below_drewN | apply below_drew1) | exact HB.out)))); have n1_ := Aside0.mk (below_step (by repeat (first | (with_reducible first | exact HB.out | apply below_alloc | apply pw_below_drewN | apply below_drew1) | exact HB.out)) hb); clear HB; have HO168 := n0_; have HB := n1_; clear n0_ n1_; (try clear hb); (try clear hb2); (try clear hk); (try clear hi); (try clear ho0)) | ((with_reducible refine gate_callee (f := 10) rfl ?_); refine goesL_ (some 13) rfl rfl Tryd.func10 (by kernel_rfl) rfl #[.string (⟨#[65, 78, 68, 32, 79, 114]⟩ : ByteArray)] rfl (by (try simp only [List.map_toArray, List.map_cons, List.map_nil]); first | done | rfl | (simp only [List.length_drop, List.length_take]; rfl)) ?_; (with_reducible refine (lexer_Split.calls k (⟨#[65, 78, 68, 32, 79, 114]⟩ : ByteArray) t169 t170 t171 _ A2.out).mono ?_); rintro e w27 ⟨v172, rfl, ho0, hb⟩; refine ⟨_, rfl, ?_⟩; have n0_ := Aside0.mk (Kd.R_elder' (by (with_reducible repeat (first | apply Kd.R_alloc | apply Kd.R_drewN | apply Kd.R_drew)); exact HO168.out) (Kd.R_base ho0) hb); have n1_ := Aside0.mk (Kd.R_lower (Kd.R_new' ho0 (Kd.R_lt (by (with_reducible repeat (first | apply Kd.R_alloc | apply Kd.R_drewN | apply Kd.R_drew)); exact HO168.out))) (below_size (by repeat (first | (with_reducible first | exact HB.out | apply below_alloc | apply pw_below_drewN | apply below_drew1) | exact HB.out)))); have n2_ := Aside0.mk (below_step (by repeat (first | (with_reducible first | exact HB.out | apply below_alloc | apply pw_below_drewN | apply below_drew1) | exact HB.out)) hb); clear HO168; clear HB; have HO168 := n0_; have HO173 := n1_; have HB := n2_; clear n0_ n1_ n2_; (try clear hb); (try clear hb2); (try clear hk); (try clear hi); (try clear ho0); obtain ⟨Ao28, co28, eo28⟩ := Kd.R_slice HO168.out; subst eo28; have p174 : 0 ≤ (0 : Int) := (by omega); have q174 : 0 < (t164.length : Int) := of_decide_eq_true (by first | (with_reducible assumption) | assumption); obtain ⟨ad174, e174, hx174_0, hx174_1, hx174_2⟩ := at_T33 (Kd.R_reads' HO168.out).2.2 0 p174 q174; cases e174; have qi174 : (0 < t164.length) = True := eq_true (by omega); (try rw [show ((0 : Int)).toNat = 0 from rfl] at hx174_0); (try rw [show 0 * 3 = 0 from rfl] at hx174_0); (try rw [Addr.add_zero'] at hx174_0); (try rw [show ((0 : Int)).toNat = 0 from rfl] at hx174_1); (try rw [show 0 * 3 = 0 from rfl] at hx174_1); (try rw [Addr.add_zero'] at hx174_1); (try rw [show ((0 : Int)).toNat = 0 from rfl] at hx174_2); (try rw [show 0 * 3 = 0 from rfl] at hx174_2); (try rw [Addr.add_zero'] at hx174_2); replace p174 := eq_true p174; replace q174 := eq_true q174; have p175 : 0 ≤ (1 : Int) := (by omega); have q175 : 1 < (t164.length : Int) := of_decide_eq_true (by first | (with_reducible assumption) | assumption); obtain ⟨ad175, e175, hx175_0, hx175_1, hx175_2⟩ := at_T33 (Kd.R_reads' HO168.out).2.2 1 p175 q175; obtain rfl : ad174 = ad175 := (by injection e175); (try simp only [show (1 : Int).toNat = 1 from rfl, Nat.reduceMul, Nat.reduceEqDiff, Go.Addr.add, ↓reduceIte] at hx175_0); (try simp only [show (1 : Int).toNat = 1 from rfl, Nat.reduceMul, Nat.reduceEqDiff, Go.Addr.add, ↓reduceIte] at hx175_1); (try simp only [show (1 : Int).toNat = 1 from rfl, Nat.reduceMul, Nat.reduceEqDiff, Go.Addr.add, ↓reduceIte] at hx175_2); have qi175 : (1 < t164.length) = True := eq_true (by omega); (try rw [show ((1 : Int)).toNat = 1 from rfl] at hx175_0); (try rw [show 1 * 3 = 3 from rfl] at hx175_0); (try rw [show ((1 : Int)).toNat = 1 from rfl] at hx175_1); (try rw [show 1 * 3 = 3 from rfl] at hx175_1); (try rw [show ((1 : Int)).toNat = 1 from rfl] at hx175_2); (try rw [show 1 * 3 = 3 from rfl] at hx175_2); replace p175 := eq_true p175; replace q175 := eq_true q175))
                go_ret
                exact ⟨by first | rfl | (simp [errW_none, errW_some] <;> rfl) | (simp [*, errW_none, errW_some] <;> rfl), by repeat (first | (with_reducible first | exact HB.out | apply below_alloc | apply pw_below_drewN | apply below_drew1) | exact HB.out)⟩
          · rw [if_neg c7] at H
            exact absurd H (by simp)
        · rw [if_neg c6] at H
          have c6b0 : (((rd_T33 t164 0).f0) == 5) = false := beq_eq_false_iff_ne.mpr c6
          have c6b1 : (((rd_T33 t164 0).f0) != 5) = true := bne_iff_ne.mpr c6
          as_aux_lemma =>
            obtain rfl := Option.some.inj H
            go_enter Tryd.func9, Tryd.ntmps9
            go_wp2_with (first | ((with_reducible refine gate_callee (f := 10) rfl ?_); refine goesL_ (some 8) rfl rfl Tryd.func10 (by kernel_rfl) rfl #[.string (⟨#[94, 34, 97, 92, 120, 48, 97, 34]⟩ : ByteArray)] rfl (by (try simp only [List.map_toArray, List.map_cons, List.map_nil]); first | done | rfl | (simp only [List.length_drop, List.length_take]; rfl)) ?_; (with_reducible refine (lexer_Split.calls k (⟨#[94, 34, 97, 92, 120, 48, 97, 34]⟩ : ByteArray) t164 t165 t166 _ A1.out).mono ?_); rintro e w29 ⟨v167, rfl, ho0, hb⟩; refine ⟨_, rfl, ?_⟩; have n0_ := Aside0.mk (Kd.R_lower ho0 (below_size (by repeat (first | (with_reducible first | exact HB.out | apply below_alloc | apply pw_below_drewN | apply below_drew1) | exact HB.out)))); have n1_ := Aside0.mk (below_step (by repeat (first | (with_reducible first | exact HB.out | apply below_alloc | apply pw_below_drewN | apply below_drew1) | exact HB.out)) hb); clear HB; have HO168 := n0_; have HB := n1_; clear n0_ n1_; (try clear hb); (try clear hb2); (try clear hk); (try clear hi); (try clear ho0)) | ((with_reducible refine gate_callee (f := 10) rfl ?_); refine goesL_ (some 13) rfl rfl Tryd.func10 (by kernel_rfl) rfl #[.string (⟨#[65, 78, 68, 32, 79, 114]⟩ : ByteArray)] rfl (by (try simp only [List.map_toArray, List.map_cons, List.map_nil]); first | done | rfl | (simp only [List.length_drop, List.length_take]; rfl)) ?_; (with_reducible refine (lexer_Split.calls k (⟨#[65, 78, 68, 32, 79, 114]⟩ : ByteArray) t169 t170 t171 _ A2.out).mono ?_); rintro e w30 ⟨v172, rfl, ho0, hb⟩; refine ⟨_, rfl, ?_⟩; have n0_ := Aside0.mk (Kd.R_elder' (by (with_reducible repeat (first | apply Kd.R_alloc | apply Kd.R_drewN | apply Kd.R_drew)); exact HO168.out) (Kd.R_base ho0) hb); have n1_ := Aside0.mk (Kd.R_lower (Kd.R_new' ho0 (Kd.R_lt (by (with_reducible repeat (first | apply Kd.R_alloc | apply Kd.R_drewN | apply Kd.R_drew)); exact HO168.out))) (below_size (by repeat (first | (with_reducible first | exact HB.out | apply below_alloc | apply pw_below_drewN | apply below_drew1) | exact HB.out)))); have n2_ := Aside0.mk (below_step (by repeat (first | (with_reducible first | exact HB.out | apply below_alloc | apply pw_below_drewN | apply below_drew1) | exact HB.out)) hb); clear HO168; clear HB; have HO168 := n0_; have HO173 := n1_; have HB := n2_; clear n0_ n1_ n2_; (try clear hb); (try clear hb2); (try clear hk); (try clear hi); (try clear ho0); obtain ⟨Ao31, co31, eo31⟩ := Kd.R_slice HO168.out; subst eo31; have p174 : 0 ≤ (0 : Int) := (by omega); have q174 : 0 < (t164.length : Int) := of_decide_eq_true (by first | (with_reducible assumption) | assumption); obtain ⟨ad174, e174, hx174_0, hx174_1, hx174_2⟩ := at_T33 (Kd.R_reads' HO168.out).2.2 0 p174 q174; cases e174; have qi174 : (0 < t164.length) = True := eq_true (by omega); (try rw [show ((0 : Int)).toNat = 0 from rfl] at hx174_0); (try rw [show 0 * 3 = 0 from rfl] at hx174_0); (try rw [Addr.add_zero'] at hx174_0); (try rw [show ((0 : Int)).toNat = 0 from rfl] at hx174_1); (try rw [show 0 * 3 = 0 from rfl] at hx174_1); (try rw [Addr.add_zero'] at hx174_1); (try rw [show ((0 : Int)).toNat = 0 from rfl] at hx174_2); (try rw [show 0 * 3 = 0 from rfl] at hx174_2); (try rw [Addr.add_zero'] at hx174_2); replace p174 := eq_true p174; replace q174 := eq_true q174))
            go_ret
            exact ⟨by first | rfl | (simp [errW_none, errW_some] <;> rfl) | (simp [*, errW_none, errW_some] <;> rfl), by repeat (first | (with_reducible first | exact HB.out | apply below_alloc | apply pw_below_drewN | apply below_drew1) | exact HB.out)⟩
      · rw [if_neg c5] at H
        exact absurd H (by simp)
    · rw [if_neg c4] at H
      have c4b0 : ((t164.length : Int) == 2) = false := beq_eq_false_iff_ne.mpr c4
      have c4b1 : ((t164.length : Int) != 2) = true := bne_iff_ne.mpr c4
      as_aux_lemma =>
        obtain rfl := Option.some.inj H
        go_enter Tryd.func9, Tryd.ntmps9
        go_wp2_with (first | ((with_reducible refine gate_callee (f := 10) rfl ?_); refine goesL_ (some 8) rfl rfl Tryd.func10 (by kernel_rfl) rfl #[.string (⟨#[94, 34, 97, 92, 120, 48, 97, 34]⟩ : ByteArray)] rfl (by (try simp only [List.map_toArray, List.map_cons, List.map_nil]); first | done | rfl | (simp only [List.length_drop, List.length_take]; rfl)) ?_; (with_reducible refine (lexer_Split.calls k (⟨#[94, 34, 97, 92, 120, 48, 97, 34]⟩ : ByteArray) t164 t165 t166 _ A1.out).mono ?_); rintro e w32 ⟨v167, rfl, ho0, hb⟩; refine ⟨_, rfl, ?_⟩; have n0_ := Aside0.mk (Kd.R_lower ho0 (below_size (by repeat (first | (with_reducible first | exact HB.out | apply below_alloc | apply pw_below_drewN | apply below_drew1) | exact HB.out)))); have n1_ := Aside0.mk (below_step (by repeat (first | (with_reducible first | exact HB.out | apply below_alloc | apply pw_below_drewN | apply below_drew1) | exact HB.out)) hb); clear HB; have HO168 := n0_; have HB := n1_; clear n0_ n1_; (try clear hb); (try clear hb2); (try clear hk); (try clear hi); (try clear ho0)) | ((with_reducible refine gate_callee (f := 10) rfl ?_); refine goesL_ (some 13) rfl rfl Tryd.func10 (by kernel_rfl) rfl #[.string (⟨#[65, 78, 68, 32, 79, 114]⟩ : ByteArray)] rfl (by (try simp only [List.map_toArray, List.map_cons, List.map_nil]); first | done | rfl | (simp only [List.length_drop, List.length_take]; rfl)) ?_; (with_reducible refine (lexer_Split.calls k (⟨#[65, 78, 68, 32, 79, 114]⟩ : ByteArray) t169 t170 t171 _ A2.out).mono ?_); rintro e w33 ⟨v172, rfl, ho0, hb⟩; refine ⟨_, rfl, ?_⟩; have n0_ := Aside0.mk (Kd.R_elder' (by (with_reducible repeat (first | apply Kd.R_alloc | apply Kd.R_drewN | apply Kd.R_drew)); exact HO168.out) (Kd.R_base ho0) hb); have n1_ := Aside0.mk (Kd.R_lower (Kd.R_new' ho0 (Kd.R_lt (by (with_reducible repeat (first | apply Kd.R_alloc | apply Kd.R_drewN | apply Kd.R_drew)); exact HO168.out))) (below_size (by repeat (first | (with_reducible first | exact HB.out | apply below_alloc | apply pw_below_drewN | apply below_drew1) | exact HB.out)))); have n2_ := Aside0.mk (below_step (by repeat (first | (with_reducible first | exact HB.out | apply below_alloc | apply pw_below_drewN | apply below_drew1) | exact HB.out)) hb); clear HO168; clear HB; have HO168 := n0_; have HO173 := n1_; have HB := n2_; clear n0_ n1_ n2_; (try clear hb); (try clear hb2); (try clear hk); (try clear hi); (try clear ho0); obtain ⟨Ao34, co34, eo34⟩ := Kd.R_slice HO168.out; subst eo34))
        go_ret
        exact ⟨by first | rfl | (simp [errW_none, errW_some] <;> rfl) | (simp [*, errW_none, errW_some] <;> rfl), by repeat (first | (with_reducible first | exact HB.out | apply below_alloc | apply pw_below_drewN | apply below_drew1) | exact HB.out)⟩
  · rw [if_neg c3] at H
    have c3b0 : (t165 == 0) = false := beq_eq_false_iff_ne.mpr c3
    have c3b1 : (t165 != 0) = true := bne_iff_ne.mpr c3
    as_aux_lemma =>
      obtain rfl := Option.some.inj H
      go_enter Tryd.func9, Tryd.ntmps9
      go_wp2_with (first | ((with_reducible refine gate_callee (f := 10) rfl ?_); refine goesL_ (some 8) rfl rfl Tryd.func10 (by kernel_rfl) rfl #[.string (⟨#[94, 34, 97, 92, 120, 48, 97, 34]⟩ : ByteArray)] rfl (by (try simp only [List.map_toArray, List.map_cons, List.map_nil]); first | done | rfl | (simp only [List.length_drop, List.length_take]; rfl)) ?_; (with_reducible refine (lexer_Split.calls k (⟨#[94, 34, 97, 92, 120, 48, 97, 34]⟩ : ByteArray) t164 t165 t166 _ A1.out).mono ?_); rintro e w35 ⟨v167, rfl, ho0, hb⟩; refine ⟨_, rfl, ?_⟩; have n0_ := Aside0.mk (Kd.R_lower ho0 (below_size (by repeat (first | (with_reducible first | exact HB.out | apply below_alloc | apply pw_below_drewN | apply below_drew1) | exact HB.out)))); have n1_ := Aside0.mk (below_step (by repeat (first | (with_reducible first | exact HB.out | apply below_alloc | apply pw_below_drewN | apply below_drew1) | exact HB.out)) hb); clear HB; have HO168 := n0_; have HB := n1_; clear n0_ n1_; (try clear hb); (try clear hb2); (try clear hk); (try clear hi); (try clear ho0)) | ((with_reducible refine gate_callee (f := 10) rfl ?_); refine goesL_ (some 13) rfl rfl Tryd.func10 (by kernel_rfl) rfl #[.string (⟨#[65, 78, 68, 32, 79, 114]⟩ : ByteArray)] rfl (by (try simp only [List.map_toArray, List.map_cons, List.map_nil]); first | done | rfl | (simp only [List.length_drop, List.length_take]; rfl)) ?_; (with_reducible refine (lexer_Split.calls k (⟨#[65, 78, 68, 32, 79, 114]⟩ : ByteArray) t169 t170 t171 _ A2.out).mono ?_); rintro e w36 ⟨v172, rfl, ho0, hb⟩; refine ⟨_, rfl, ?_⟩; have n0_ := Aside0.mk (Kd.R_elder' (by (with_reducible repeat (first | apply Kd.R_alloc | apply Kd.R_drewN | apply Kd.R_drew)); exact HO168.out) (Kd.R_base ho0) hb); have n1_ := Aside0.mk (Kd.R_lower (Kd.R_new' ho0 (Kd.R_lt (by (with_reducible repeat (first | apply Kd.R_alloc | apply Kd.R_drewN | apply Kd.R_drew)); exact HO168.out))) (below_size (by repeat (first | (with_reducible first | exact HB.out | apply below_alloc | apply pw_below_drewN | apply below_drew1) | exact HB.out)))); have n2_ := Aside0.mk (below_step (by repeat (first | (with_reducible first | exact HB.out | apply below_alloc | apply pw_below_drewN | apply below_drew1) | exact HB.out)) hb); clear HO168; clear HB; have HO168 := n0_; have HO173 := n1_; have HB := n2_; clear n0_ n1_ n2_; (try clear hb); (try clear hb2); (try clear hk); (try clear hi); (try clear ho0)))
      go_ret
      exact ⟨by first | rfl | (simp [errW_none, errW_some] <;> rfl) | (simp [*, errW_none, errW_some] <;> rfl), by repeat (first | (with_reducible first | exact HB.out | apply below_alloc | apply pw_below_drewN | apply below_drew1) | exact HB.out)⟩

end Go.Proofs.YtfoijdahgkngpaaDoor.L
