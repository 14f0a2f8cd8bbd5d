-- Written for this claim by a program of this session (over the kit's print tool): functions as Lean functions, their contracts, rows. Lean checks it.
import Derived.Test.YtfoijdahgkngpaaDoorL0
namespace Go.Proofs.YtfoijdahgkngpaaDoor.L
open Go.RowKit Go.Proofs.YtfoijdahgkngpaaDoorW.PrintWords Go.Proofs.YtfoijdahgkngpaaDoorW.PrintLast Go.Proofs.YtfoijdahgkngpaaDoorW.PrintMore
attribute [local go_sem] max2_int min2_int max_two min_two max_three min_three max_four min_four   -- for this text's walks alone
set_option linter.unusedVariables false
set_option linter.unusedSimpArgs false

/-! ### strings_Trim: function 26 -/
/-- strings.Trim, at a cutset of bytes below 128. -/
def strings_Trim.f (a0 a1 : ByteArray) : Option ByteArray := if a0.size ≤ 9223372036854775807 ∧ a1.size < 4294967281 ∧ a1.data.toList.all (fun b => decide (b.toNat < 128)) = true then some ⟨(Lib.trimS a0.data.toList a1.data.toList).toArray⟩ else none
theorem strings_Trim.calls (a0 a1 : ByteArray) (r : ByteArray) (w : World) (h : strings_Trim.f a0 a1 = some r) :
    Calls Tryd.prog 26 #[.string a0, .string a1] w fun e w' => e = .returned (.string r) ∧ Below w.heap.size w w' := by
  unfold strings_Trim.f at h
  split at h
  · rename_i hs
    obtain rfl := Option.some.inj h
    exact Any.strings_Trim_laid Tryd.lays160 (by kernel_rfl) a0 a1 w hs.1 hs.2.1 (ascii_of_all hs.2.2)
  · cases h

/-! ### strconv_ParseUint: function 27 -/
/-- strconv.ParseUint, at two hexadecimal digits. -/
def strconv_ParseUint.f (a0 : ByteArray) (a1 a2 : Int) : Option (Int × Option Int) := if a1 = 16 ∧ a2 = 8 ∧ a0.size = 2 then (Pu16.hexM 0 a0.data.toList).map fun (u : Nat) => ((u : Int), none) else none
theorem strconv_ParseUint.calls (a0 : ByteArray) (a1 a2 : Int) (r1 : Int) (r2 : Option Int) (w : World) (h : strconv_ParseUint.f a0 a1 a2 = some (r1, r2)) :
    Calls Tryd.prog 27 #[.string a0, .int .i64 a1, .int .i64 a2] w fun e w' => e = .returned (.tuple #[.int .u64 r1, errW r2]) ∧ Below w.heap.size w w' := by
  unfold strconv_ParseUint.f at h
  split at h
  · rename_i hs
    obtain ⟨rfl, rfl, h2⟩ := hs
    obtain ⟨u, hu, he⟩ := Option.map_eq_some_iff.1 h
    injection he with e1 e2
    subst e1; subst e2
    refine (Pu16.outer Tryd.laysPu14 a0 h2 u hu w).mono ?_
    rintro e w' ⟨rfl, rfl⟩
    exact ⟨rfl, Lib.bytesWorld_below _ _ _⟩
  · cases h

/-! ### lexer_escaped: function 23 -/
mutual
def lexer_escaped.j0 : Nat → ByteArray → Bool → Option (Int × Int)
  | 0, _, _ => none
  | k + 1, x0, x9 => if x9 = true then (if 0 < (x0.size : Int) then (some (bt x0 0, 1)) else (none)) else (if 0 < (x0.size : Int) then (if (bt x0 0) = 120 then (lexer_escaped.j1 k x0 (decide ((x0.size : Int) > 2))) else (lexer_escaped.j1 k x0 false)) else (none))
def lexer_escaped.j1 : Nat → ByteArray → Bool → Option (Int × Int)
  | 0, _, _ => none
  | k + 1, x0, x18 => if x18 = true then (if 1 ≤ 3 then (if 3 ≤ (x0.size : Int) then ((strings_Trim.f (x0.extract 1 3) (⟨#[48, 49, 50, 51, 52, 53, 54, 55, 56, 57, 97, 98, 99, 100, 101, 102, 65, 66, 67, 68, 69, 70]⟩ : ByteArray)).bind fun t101 => (if t101.toList = ([] : List UInt8) then ((strconv_ParseUint.f (x0.extract 1 3) 16 8).bind fun bt102 => (some ((bt102.1) % 256, 3))) else (some (0, 0)))) else (none)) else (none)) else (some (0, 0))
end
def lexer_escaped.f (k : Nat) (a0 : ByteArray) : Option (Int × Int) := if a0.toList = ([] : List UInt8) then (some (0, 0)) else (if 0 < (a0.size : Int) then (if (bt a0 0) = 34 then (lexer_escaped.j0 k a0 ((bt a0 0) == 34)) else (lexer_escaped.j0 k a0 ((bt a0 0) == 92))) else (none))
theorem lexer_escaped.mono_l : ∀ k, (∀ y0 y1, LeO (lexer_escaped.j0 k y0 y1) (lexer_escaped.j0 (k + 1) y0 y1)) ∧ (∀ y0 y1, LeO (lexer_escaped.j1 k y0 y1) (lexer_escaped.j1 (k + 1) y0 y1))
  | 0 => ⟨fun _ _ r h => by simp [lexer_escaped.j0] at h, fun _ _ r h => by simp [lexer_escaped.j1] at h⟩
  | k + 1 => by
    obtain ⟨ih0, ih1⟩ := lexer_escaped.mono_l k
    refine ⟨?_, ?_⟩
    · intro y0 y1
      unfold lexer_escaped.j0
      repeat' first
      | (with_reducible exact ih0 _ _)
      | (with_reducible exact ih1 _ _)
      | (with_reducible exact LeO.refl _)
      | (with_reducible exact LeO.none _)
      | (with_reducible refine LeO.ite ?_ ?_)
      | (with_reducible refine LeO.bind ?_ (fun _ => ?_))
      | exact ih0 _ _
      | exact ih1 _ _
      | exact LeO.none _
      | refine LeO.ite ?_ ?_
      | refine LeO.bind ?_ (fun _ => ?_)
    · intro y0 y1
      unfold lexer_escaped.j1
      repeat' first
      | (with_reducible exact ih0 _ _)
      | (with_reducible exact ih1 _ _)
      | (with_reducible exact LeO.refl _)
      | (with_reducible exact LeO.none _)
      | (with_reducible refine LeO.ite ?_ ?_)
      | (with_reducible refine LeO.bind ?_ (fun _ => ?_))
      | exact ih0 _ _
      | exact ih1 _ _
      | exact LeO.none _
      | refine LeO.ite ?_ ?_
      | refine LeO.bind ?_ (fun _ => ?_)
theorem lexer_escaped.mono : ∀ a0 k, LeO (lexer_escaped.f k a0) (lexer_escaped.f (k + 1) a0) := by
  intro a0 k
  obtain ⟨ih0, ih1⟩ := lexer_escaped.mono_l k
  unfold lexer_escaped.f
  repeat' first
      | (with_reducible exact ih0 _ _)
      | (with_reducible exact ih1 _ _)
      | (with_reducible exact LeO.refl _)
      | (with_reducible exact LeO.none _)
      | (with_reducible refine LeO.ite ?_ ?_)
      | (with_reducible refine LeO.bind ?_ (fun _ => ?_))
      | exact ih0 _ _
      | exact ih1 _ _
      | exact LeO.none _
      | refine LeO.ite ?_ ?_
      | refine LeO.bind ?_ (fun _ => ?_)
set_option maxHeartbeats 8000000 in
set_option maxRecDepth 100000 in
theorem lexer_escaped.calls (k : Nat) (a0 : ByteArray) (r1 : Int) (r2 : Int) (w : World) (h : lexer_escaped.f k a0 = some (r1, r2)) :
    Calls Tryd.prog 23 #[.string a0] w fun e w' => e = .returned (.tuple #[.int .u8 r1, .int .i64 r2]) ∧ Below w.heap.size w w' := by
  have HB := Aside0.mk (Below.refl w.heap.size w)
  have H : (if a0.toList = ([] : List UInt8) then (some (0, 0)) else (if 0 < (a0.size : Int) then (if (bt a0 0) = 34 then (lexer_escaped.j0 k a0 ((bt a0 0) == 34)) else (lexer_escaped.j0 k a0 ((bt a0 0) == 92))) else (none))) = some (r1, r2) := h
  clear h
  by_cases c2 : a0.toList = ([] : List UInt8)
  · rw [if_pos c2] at H
    have c2b0 : (a0.toList == ([] : List UInt8)) = true := beq_iff_eq.mpr c2
    have c2b1 : (a0.toList != ([] : List UInt8)) = false := bne_eq_false_iff_eq.mpr c2
    clear c2
    as_aux_lemma =>
      simp only [Option.some.injEq, Prod.mk.injEq] at H
      obtain ⟨rfl, rfl⟩ := H
      go_enter Tryd.func23, Tryd.ntmps23
      go_wp2
      go_ret2
      exact ⟨by first | rfl | (simp [errW_none, errW_some] <;> rfl) | (simp [*, errW_none, errW_some] <;> rfl), by repeat (first | (with_reducible first | exact HB.out | apply below_alloc | apply pw_below_drewN | apply below_drew1) | exact HB.out)⟩
  · rw [if_neg c2] at H
    have c2b0 : (a0.toList == ([] : List UInt8)) = false := beq_eq_false_iff_ne.mpr c2
    have c2b1 : (a0.toList != ([] : List UInt8)) = true := bne_iff_ne.mpr c2
    by_cases c3 : 0 < (a0.size : Int)
    · rw [if_pos c3] at H
      have c3b0 : decide (0 < (a0.size : Int)) = true := decide_eq_true c3
      have c3b1 : decide (0 < a0.size) = true := decide_eq_true (by omega)
      clear c3
      have HC5 := Aside0.mk H
      clear H
      have p4 : 0 ≤ (0 : Int) := (by omega)
      have q4 : 0 < a0.size := (by have : (0 : Int) < (a0.size : Int) := of_decide_eq_true (by first | (with_reducible assumption) | assumption); omega)
      have hx4 : ∀ h : 0 < a0.size, ((a0[0]'h).toNat : Int) = bt a0 0 := bt_at a0 0
      clear p4
      have qi4 : (0 < (a0.size : Int)) = True := eq_true (of_decide_eq_true (by first | (with_reducible assumption) | assumption))
      replace q4 := eq_true q4
      go_enter Tryd.func23, Tryd.ntmps23
      go_upto_if 9 with (fail)
      go_cut [9] (fun v9 wc => ∃ (kq : Nat) (x9_4 : Bool), v9 = .bool x9_4 ∧ Aside0 (lexer_escaped.j0 kq a0 x9_4 = some (r1, r2)) ∧ Aside0 (kq ≤ k) ∧ Aside0 (Below w.heap.size w wc))
      case first =>
        have H := HC5.out
        clear HC5
        by_cases c6 : (bt a0 0) = 34
        · rw [if_pos c6] at H
          have c6b0 : ((bt a0 0) == 34) = true := beq_iff_eq.mpr c6
          have c6b1 : ((bt a0 0) != 34) = false := bne_eq_false_iff_eq.mpr c6
          clear c6
          (first | rw [c6b0] | (simp only [i64_w, i32_w]; rw [c6b0]) | skip)
          as_aux_lemma =>
            have H' := Aside0.mk H
            clear H
            go_wp2
            go_meet
            case rel => exact ⟨_, (((bt a0 0) == 34)), (by first | rfl | (simp; done) | (simp [*]; done)), H', ⟨by first | omega | exact Nat.le_refl _⟩, ⟨by repeat (first | (with_reducible first | exact HB.out | apply below_alloc | apply pw_below_drewN | apply below_drew1) | exact HB.out)⟩⟩
        · rw [if_neg c6] at H
          have c6b0 : ((bt a0 0) == 34) = false := beq_eq_false_iff_ne.mpr c6
          have c6b1 : ((bt a0 0) != 34) = true := bne_iff_ne.mpr c6
          (first | rw [c6b0] | (simp only [i64_w, i32_w]; rw [c6b0]) | skip)
          as_aux_lemma =>
            have H' := Aside0.mk H
            clear H
            have p7 : 0 ≤ (0 : Int) := (by omega)
            have q7 : 0 < a0.size := (by have : (0 : Int) < (a0.size : Int) := of_decide_eq_true (by first | (with_reducible assumption) | assumption); omega)
            have hx7 : ∀ h : 0 < a0.size, ((a0[0]'h).toNat : Int) = bt a0 0 := bt_at a0 0
            clear p7
            have qi7 : (0 < (a0.size : Int)) = True := eq_true (of_decide_eq_true (by first | (with_reducible assumption) | assumption))
            replace q7 := eq_true q7
            go_wp2
            go_meet
            case rel => exact ⟨_, (((bt a0 0) == 92)), (by first | rfl | (simp; done) | (simp [*]; done)), H', ⟨by first | omega | exact Nat.le_refl _⟩, ⟨by repeat (first | (with_reducible first | exact HB.out | apply below_alloc | apply pw_below_drewN | apply below_drew1) | exact HB.out)⟩⟩
      case rest =>
        clear HC5
        try clear c2
        try clear c2b0
        try clear c2b1
        try clear p2
        try clear c3
        try clear c3b0
        try clear c3b1
        try clear p4
        try clear q4
        try clear hx4
        try clear qi4
        try clear c6
        try clear c6b0
        try clear c6b1
        try clear p7
        try clear q7
        try clear hx7
        try clear qi7
        try clear p4
        try clear p7
        try clear q4
        try clear q7
        obtain ⟨kq, x9_4, rfl, HA, HJ4, HB⟩ := hcut
        cases kq with
        | zero => exact absurd HA.out (by simp [lexer_escaped.j0])
        | succ kj4 =>
          have H := HA.out
          clear HA
          simp only [lexer_escaped.j0] at H
          by_cases c8 : x9_4 = true
          · subst c8
            have H1 : (if 0 < (a0.size : Int) then (some (bt a0 0, 1)) else (none)) = some (r1, r2) := by rw [if_pos rfl] at H; exact H
            clear H
            have H := H1
            clear H1
            by_cases c9 : 0 < (a0.size : Int)
            · rw [if_pos c9] at H
              have c9b0 : decide (0 < (a0.size : Int)) = true := decide_eq_true c9
              have c9b1 : decide (0 < a0.size) = true := decide_eq_true (by omega)
              clear c9
              as_aux_lemma =>
                simp only [Option.some.injEq, Prod.mk.injEq] at H
                obtain ⟨rfl, rfl⟩ := H
                have p10 : 0 ≤ (0 : Int) := (by omega)
                have q10 : 0 < a0.size := (by have : (0 : Int) < (a0.size : Int) := of_decide_eq_true (by first | (with_reducible assumption) | assumption); omega)
                have hx10 : ∀ h : 0 < a0.size, ((a0[0]'h).toNat : Int) = bt a0 0 := bt_at a0 0
                clear p10
                have qi10 : (0 < (a0.size : Int)) = True := eq_true (of_decide_eq_true (by first | (with_reducible assumption) | assumption))
                replace q10 := eq_true q10
                go_wp2
                go_ret2
                exact ⟨by first | rfl | (simp [errW_none, errW_some] <;> rfl) | (simp [*, errW_none, errW_some] <;> rfl), by repeat (first | (with_reducible first | exact HB.out | apply below_alloc | apply pw_below_drewN | apply below_drew1) | exact HB.out)⟩
            · rw [if_neg c9] at H
              exact absurd H (by simp)
          · replace c8 := Bool.eq_false_iff.mpr c8
            subst c8
            have H1 : (if 0 < (a0.size : Int) then (if (bt a0 0) = 120 then (lexer_escaped.j1 kj4 a0 (decide ((a0.size : Int) > 2))) else (lexer_escaped.j1 kj4 a0 false)) else (none)) = some (r1, r2) := by rw [if_neg (show ¬ (false = true) by decide)] at H; exact H
            clear H
            have H := H1
            clear H1
            have HC11 := Aside0.mk H
            clear H
            go_upto_region 5 with (fail)
            go_cut [18] (fun v18 wc => ∃ (kq : Nat) (x18_10 : Bool), v18 = .bool x18_10 ∧ Aside0 (lexer_escaped.j1 kq a0 x18_10 = some (r1, r2)) ∧ Aside0 (kq ≤ kj4) ∧ Aside0 (Below w.heap.size w wc))
            case first =>
              have H := HC11.out
              clear HC11
              by_cases c12 : 0 < (a0.size : Int)
              · rw [if_pos c12] at H
                have c12b0 : decide (0 < (a0.size : Int)) = true := decide_eq_true c12
                have c12b1 : decide (0 < a0.size) = true := decide_eq_true (by omega)
                clear c12
                (first | rw [c12b0] | (simp only [i64_w, i32_w]; rw [c12b0]) | skip)
                by_cases c14 : (bt a0 0) = 120
                · rw [if_pos c14] at H
                  have c14b0 : ((bt a0 0) == 120) = true := beq_iff_eq.mpr c14
                  have c14b1 : ((bt a0 0) != 120) = false := bne_eq_false_iff_eq.mpr c14
                  clear c14
                  as_aux_lemma =>
                    have H' := Aside0.mk H
                    clear H
                    have p13 : 0 ≤ (0 : Int) := (by omega)
                    have q13 : 0 < a0.size := (by have : (0 : Int) < (a0.size : Int) := of_decide_eq_true (by first | (with_reducible assumption) | assumption); omega)
                    have hx13 : ∀ h : 0 < a0.size, ((a0[0]'h).toNat : Int) = bt a0 0 := bt_at a0 0
                    clear p13
                    have qi13 : (0 < (a0.size : Int)) = True := eq_true (of_decide_eq_true (by first | (with_reducible assumption) | assumption))
                    replace q13 := eq_true q13
                    go_wp2
                    go_meet
                    case rel => exact ⟨_, (decide ((a0.size : Int) > 2)), (by first | rfl | (simp; done) | (simp [*]; done)), H', ⟨by have := HJ4.out; first | omega | exact Nat.le_refl _⟩, ⟨by repeat (first | (with_reducible first | exact HB.out | apply below_alloc | apply pw_below_drewN | apply below_drew1) | exact HB.out)⟩⟩
                · rw [if_neg c14] at H
                  have c14b0 : ((bt a0 0) == 120) = false := beq_eq_false_iff_ne.mpr c14
                  have c14b1 : ((bt a0 0) != 120) = true := bne_iff_ne.mpr c14
                  as_aux_lemma =>
                    have H' := Aside0.mk H
                    clear H
                    have p13 : 0 ≤ (0 : Int) := (by omega)
                    have q13 : 0 < a0.size := (by have : (0 : Int) < (a0.size : Int) := of_decide_eq_true (by first | (with_reducible assumption) | assumption); omega)
                    have hx13 : ∀ h : 0 < a0.size, ((a0[0]'h).toNat : Int) = bt a0 0 := bt_at a0 0
                    clear p13
                    have qi13 : (0 < (a0.size : Int)) = True := eq_true (of_decide_eq_true (by first | (with_reducible assumption) | assumption))
                    replace q13 := eq_true q13
                    go_wp2
                    go_meet
                    case rel => exact ⟨_, (false), (by first | rfl | (simp; done) | (simp [*]; done)), H', ⟨by have := HJ4.out; first | omega | exact Nat.le_refl _⟩, ⟨by repeat (first | (with_reducible first | exact HB.out | apply below_alloc | apply pw_below_drewN | apply below_drew1) | exact HB.out)⟩⟩
              · rw [if_neg c12] at H
                exact absurd H (by simp)
            case rest =>
              clear HC11
              try clear c1
              try clear p1
              try clear q1
              try clear hx1
              try clear qi1
              try clear c2
              try clear c2b0
              try clear c2b1
              try clear p2
              try clear c3
              try clear c3b0
              try clear c3b1
              try clear p4
              try clear q4
              try clear hx4
              try clear qi4
              try clear c6
              try clear c6b0
              try clear c6b1
              try clear p7
              try clear q7
              try clear hx7
              try clear qi7
              try clear c8
              try clear c9
              try clear c9b0
              try clear c9b1
              try clear p10
              try clear q10
              try clear hx10
              try clear qi10
              try clear c12
              try clear c12b0
              try clear c12b1
              try clear p13
              try clear q13
              try clear hx13
              try clear qi13
              try clear c14
              try clear c14b0
              try clear c14b1
              try clear p10
              try clear p13
              try clear p2
              try clear p4
              try clear p7
              try clear q10
              try clear q13
              try clear q4
              try clear q7
              obtain ⟨kq, x18_10, rfl, HA, HJ10, HB⟩ := hcut
              cases kq with
              | zero => exact absurd HA.out (by simp [lexer_escaped.j1])
              | succ kj10 =>
                have H := HA.out
                clear HA
                simp only [lexer_escaped.j1] at H
                by_cases c15 : x18_10 = true
                · subst c15
                  have H1 : (if 1 ≤ 3 then (if 3 ≤ (a0.size : Int) then ((strings_Trim.f (a0.extract 1 3) (⟨#[48, 49, 50, 51, 52, 53, 54, 55, 56, 57, 97, 98, 99, 100, 101, 102, 65, 66, 67, 68, 69, 70]⟩ : ByteArray)).bind fun t101 => (if t101.toList = ([] : List UInt8) then ((strconv_ParseUint.f (a0.extract 1 3) 16 8).bind fun bt102 => (some ((bt102.1) % 256, 3))) else (some (0, 0)))) else (none)) else (none)) = some (r1, r2) := by rw [if_pos rfl] at H; exact H
                  clear H
                  have H := H1
                  clear H1
                  by_cases c16 : 1 ≤ 3
                  · rw [if_pos c16] at H
                    have c16b0 := eq_true c16
                    have c16b1 : decide (1 ≤ 3) = true := decide_eq_true c16
                    clear c16
                    by_cases c17 : 3 ≤ (a0.size : Int)
                    · rw [if_pos c17] at H
                      have c17b0 := eq_true c17
                      have c17b1 : decide (3 ≤ (a0.size : Int)) = true := decide_eq_true c17
                      clear c17
                      replace H := Option.bind_eq_some_iff.mp H
                      obtain ⟨t101, A180, H⟩ := H
                      replace H : (if t101.toList = ([] : List UInt8) then ((strconv_ParseUint.f (a0.extract 1 3) 16 8).bind fun bt102 => (some ((bt102.1) % 256, 3))) else (some (0, 0))) = some (r1, r2) := H
                      have A18 := Aside0.mk A180
                      clear A180
                      by_cases c19 : t101.toList = ([] : List UInt8)
                      · rw [if_pos c19] at H
                        have c19b0 : (t101.toList == ([] : List UInt8)) = true := beq_iff_eq.mpr c19
                        have c19b1 : (t101.toList != ([] : List UInt8)) = false := bne_eq_false_iff_eq.mpr c19
                        clear c19
                        have c20b0 := eq_true (of_decide_eq_true (by first | (with_reducible assumption) | assumption) : 1 ≤ 3)
                        have c21b0 := eq_true (of_decide_eq_true (by first | (with_reducible assumption) | assumption) : 3 ≤ (a0.size : Int))
                        replace H := Option.bind_eq_some_iff.mp H
                        obtain ⟨⟨t102, t103⟩, A220, H⟩ := H
                        replace H : (some ((t102) % 256, 3)) = some (r1, r2) := H
                        have A22 := Aside0.mk A220
                        clear A220
                        as_aux_lemma =>
                          simp only [Option.some.injEq, Prod.mk.injEq] at H
                          obtain ⟨rfl, rfl⟩ := H
                          go_wp2_with (first | ((with_reducible refine gate_callee (f := 26) rfl ?_); refine goesL_ (some 29) rfl rfl Tryd.func26 (by kernel_rfl) rfl #[.string (a0.extract 1 3), .string (⟨#[48, 49, 50, 51, 52, 53, 54, 55, 56, 57, 97, 98, 99, 100, 101, 102, 65, 66, 67, 68, 69, 70]⟩ : ByteArray)] rfl (by (try simp only [List.map_toArray, List.map_cons, List.map_nil]); first | done | rfl | (simp only [List.length_drop, List.length_take]; rfl)) ?_; (with_reducible refine (strings_Trim.calls (a0.extract 1 3) (⟨#[48, 49, 50, 51, 52, 53, 54, 55, 56, 57, 97, 98, 99, 100, 101, 102, 65, 66, 67, 68, 69, 70]⟩ : ByteArray) t101 _ A18.out).mono ?_); rintro e w23 ⟨rfl, hb⟩; refine ⟨_, rfl, ?_⟩; have n0_ := Aside0.mk (below_step (by repeat (first | (with_reducible first | exact HB.out | apply below_alloc | apply pw_below_drewN | apply below_drew1) | exact HB.out)) hb); clear HB; have HB := n0_; clear n0_; (try clear hb); (try clear hb2); (try clear hk); (try clear hi)) | ((with_reducible refine gate_callee (f := 27) rfl ?_); refine goesL_ (some 34) rfl rfl Tryd.func27 (by kernel_rfl) rfl #[.string (a0.extract 1 3), .int .i64 16, .int .i64 8] rfl (by (try simp only [List.map_toArray, List.map_cons, List.map_nil]); first | done | rfl | (simp only [List.length_drop, List.length_take]; rfl)) ?_; (with_reducible refine (strconv_ParseUint.calls (a0.extract 1 3) 16 8 t102 t103 _ A22.out).mono ?_); rintro e w24 ⟨rfl, hb⟩; refine ⟨_, rfl, ?_⟩; have n0_ := Aside0.mk (below_step (by repeat (first | (with_reducible first | exact HB.out | apply below_alloc | apply pw_below_drewN | apply below_drew1) | exact HB.out)) hb); clear HB; have HB := n0_; clear n0_; (try clear hb); (try clear hb2); (try clear hk); (try clear hi); (try simp only [errW_none, errW_some])))
                          go_ret2
                          exact ⟨by first | rfl | (simp [errW_none, errW_some] <;> rfl) | (simp [*, errW_none, errW_some] <;> rfl), by repeat (first | (with_reducible first | exact HB.out | apply below_alloc | apply pw_below_drewN | apply below_drew1) | exact HB.out)⟩
                      · rw [if_neg c19] at H
                        have c19b0 : (t101.toList == ([] : List UInt8)) = false := beq_eq_false_iff_ne.mpr c19
                        have c19b1 : (t101.toList != ([] : List UInt8)) = true := bne_iff_ne.mpr c19
                        as_aux_lemma =>
                          simp only [Option.some.injEq, Prod.mk.injEq] at H
                          obtain ⟨rfl, rfl⟩ := H
                          go_wp2_with (first | ((with_reducible refine gate_callee (f := 26) rfl ?_); refine goesL_ (some 29) rfl rfl Tryd.func26 (by kernel_rfl) rfl #[.string (a0.extract 1 3), .string (⟨#[48, 49, 50, 51, 52, 53, 54, 55, 56, 57, 97, 98, 99, 100, 101, 102, 65, 66, 67, 68, 69, 70]⟩ : ByteArray)] rfl (by (try simp only [List.map_toArray, List.map_cons, List.map_nil]); first | done | rfl | (simp only [List.length_drop, List.length_take]; rfl)) ?_; (with_reducible refine (strings_Trim.calls (a0.extract 1 3) (⟨#[48, 49, 50, 51, 52, 53, 54, 55, 56, 57, 97, 98, 99, 100, 101, 102, 65, 66, 67, 68, 69, 70]⟩ : ByteArray) t101 _ A18.out).mono ?_); rintro e w25 ⟨rfl, hb⟩; refine ⟨_, rfl, ?_⟩; have n0_ := Aside0.mk (below_step (by repeat (first | (with_reducible first | exact HB.out | apply below_alloc | apply pw_below_drewN | apply below_drew1) | exact HB.out)) hb); clear HB; have HB := n0_; clear n0_; (try clear hb); (try clear hb2); (try clear hk); (try clear hi)))
                          go_ret2
                          exact ⟨by first | rfl | (simp [errW_none, errW_some] <;> rfl) | (simp [*, errW_none, errW_some] <;> rfl), by repeat (first | (with_reducible first | exact HB.out | apply below_alloc | apply pw_below_drewN | apply below_drew1) | exact HB.out)⟩
                    · rw [if_neg c17] at H
                      exact absurd H (by simp)
                  · rw [if_neg c16] at H
                    exact absurd H (by simp)
                · replace c15 := Bool.eq_false_iff.mpr c15
                  subst c15
                  have H1 : (some (0, 0)) = some (r1, r2) := by rw [if_neg (show ¬ (false = true) by decide)] at H; exact H
                  clear H
                  have H := H1
                  clear H1
                  as_aux_lemma =>
                    simp only [Option.some.injEq, Prod.mk.injEq] at H
                    obtain ⟨rfl, rfl⟩ := H
                    go_wp2
                    go_ret2
                    exact ⟨by first | rfl | (simp [errW_none, errW_some] <;> rfl) | (simp [*, errW_none, errW_some] <;> rfl), by repeat (first | (with_reducible first | exact HB.out | apply below_alloc | apply pw_below_drewN | apply below_drew1) | exact HB.out)⟩
    · rw [if_neg c3] at H
      exact absurd H (by simp)

/-! ### lexer_literal: function 15 -/
def lexer_literal.l0 : Nat → ByteArray → List Int → Int → Option (ByteArray × Int × Bool)
  | 0, _, _, _ => none
  | k + 1, x0, x5, x6 => if x6 < (x0.size : Int) then (if 0 ≤ x6 then (if (bt x0 x6) = 34 then (some (strOfNums x5, wrap64 (x6 + 1), true)) else (if (bt x0 x6) = 92 then (if 0 ≤ (wrap64 (x6 + 1)) then (if (wrap64 (x6 + 1)) ≤ (x0.size : Int) then ((lexer_escaped.f k (x0.extract ((wrap64 (x6 + 1)) : Int).toNat x0.size)).bind fun bt104 => (if bt104.2 = 0 then (some ((⟨#[]⟩ : ByteArray), x6, false)) else (if x5.length < 140737488355328 then (lexer_literal.l0 k x0 (x5 ++ [bt104.1]) (wrap64 ((wrap64 (x6 + bt104.2)) + 1))) else (none)))) else (none)) else (none)) else (if x5.length < 140737488355328 then (lexer_literal.l0 k x0 (x5 ++ [bt x0 x6]) (wrap64 (x6 + 1))) else (none)))) else (none)) else (some ((⟨#[]⟩ : ByteArray), (x0.size : Int), false))
def lexer_literal.f (k : Nat) (a0 : ByteArray) : Option (ByteArray × Int × Bool) := lexer_literal.l0 k a0 ([] : List Int) 0
theorem lexer_literal.mono_l : ∀ k, (∀ y0 y1 y2, LeO (lexer_literal.l0 k y0 y1 y2) (lexer_literal.l0 (k + 1) y0 y1 y2))
  | 0 => fun _ _ _ r h => by simp [lexer_literal.l0] at h
  | k + 1 => by
    have ih0 := lexer_literal.mono_l k
    · intro y0 y1 y2
      unfold lexer_literal.l0
      repeat' first
      | (with_reducible exact ih0 _ _ _)
      | (with_reducible exact lexer_escaped.mono _ _)
      | (with_reducible exact LeO.refl _)
      | (with_reducible exact LeO.none _)
      | (with_reducible refine LeO.ite ?_ ?_)
      | (with_reducible refine LeO.bind ?_ (fun _ => ?_))
      | exact ih0 _ _ _
      | exact lexer_escaped.mono _ _
      | exact LeO.none _
      | refine LeO.ite ?_ ?_
      | refine LeO.bind ?_ (fun _ => ?_)
theorem lexer_literal.mono : ∀ a0 k, LeO (lexer_literal.f k a0) (lexer_literal.f (k + 1) a0) := by
  intro a0 k
  have ih0 := lexer_literal.mono_l k
  unfold lexer_literal.f
  repeat' first
      | (with_reducible exact ih0 _ _ _)
      | (with_reducible exact lexer_escaped.mono _ _)
      | (with_reducible exact LeO.refl _)
      | (with_reducible exact LeO.none _)
      | (with_reducible refine LeO.ite ?_ ?_)
      | (with_reducible refine LeO.bind ?_ (fun _ => ?_))
      | exact ih0 _ _ _
      | exact lexer_escaped.mono _ _
      | exact LeO.none _
      | refine LeO.ite ?_ ?_
      | refine LeO.bind ?_ (fun _ => ?_)
set_option maxHeartbeats 8000000 in
set_option maxRecDepth 100000 in
theorem lexer_literal.calls (k : Nat) (a0 : ByteArray) (r1 : ByteArray) (r2 : Int) (r3 : Bool) (w : World) (h : lexer_literal.f k a0 = some (r1, r2, r3)) :
    Calls Tryd.prog 15 #[.string a0] w fun e w' => e = .returned (.tuple #[.string r1, .int .i64 r2, .bool r3]) ∧ Below w.heap.size w w' := by
  have HB := Aside0.mk (Below.refl w.heap.size w)
  have H : (lexer_literal.l0 k a0 ([] : List Int) 0) = some (r1, r2, r3) := h
  clear h
  have H' := Aside0.mk H
  clear H
  go_enter Tryd.func15, Tryd.ntmps15
  go_wp2
  go_loopg [5, 6] k (fun kq v5 v6 w' => ∃ (x5_1 : List Int) (x6_1 : Int), v6 = .int .i64 x6_1 ∧ Aside0 (lexer_literal.l0 kq a0 x5_1 x6_1 = some (r1, r2, r3)) ∧ Aside0 (kq ≤ k) ∧ Aside0 (Kd.R (Kd.int .u8) 5 w' w.heap.size (fun _ => True) v5 x5_1) ∧ Aside0 (Below w.heap.size w w'))
  case atStart => exact ⟨(([] : List Int)), (0), (by first | rfl | (simp; done) | (simp [*]; done)), H', ⟨Nat.le_refl _⟩, ⟨by first | exact Kd.R_nil _ _ _ _ _ | exact Kd.N_nil _ _ _ _ _ | exact Kd.V_nil _ _ _ _ _ | exact Kd.Q_nil _ _ _ _ _ | exact Kd.S_nil _ _ _ _ _⟩, ⟨by repeat (first | (with_reducible first | exact HB.out | apply below_alloc | apply pw_below_drewN | apply below_drew1) | exact HB.out)⟩⟩
  case round =>
    clear H'
    try clear c1
    obtain ⟨x5_1, x6_1, rfl, HA, HK1, HO_5, HB⟩ := hrel
    cases gk with
    | zero => exact absurd HA.out (by simp [lexer_literal.l0])
    | succ k1 =>
      have H := HA.out
      clear HA
      simp only [lexer_literal.l0] at H
      by_cases c2 : x6_1 < (a0.size : Int)
      · rw [if_pos c2] at H
        have c2b0 : decide (x6_1 < (a0.size : Int)) = true := decide_eq_true c2
        clear c2
        by_cases c3 : 0 ≤ x6_1
        · rw [if_pos c3] at H
          have c3b0 : decide (0 ≤ x6_1) = true := decide_eq_true c3
          clear c3
          by_cases c5 : (bt a0 x6_1) = 34
          · rw [if_pos c5] at H
            have c5b0 : ((bt a0 x6_1) == 34) = true := beq_iff_eq.mpr c5
            have c5b1 : ((bt a0 x6_1) != 34) = false := bne_eq_false_iff_eq.mpr c5
            clear c5
            as_aux_lemma =>
              simp only [Option.some.injEq, Prod.mk.injEq] at H
              obtain ⟨rfl, rfl, rfl⟩ := H
              have p4 : 0 ≤ (x6_1 : Int) := of_decide_eq_true (by first | (with_reducible assumption) | assumption)
              have q4 : x6_1 < (a0.size : Int) := of_decide_eq_true (by first | (with_reducible assumption) | assumption)
              have hx4 := bt_at a0 x6_1
              replace p4 := eq_true p4
              replace q4 := eq_true q4
              have hcv6 := own_string (P := Tryd.prog) Tryd.underlying37 Tryd.underlying5 Tryd.underlying9 (Kd.own_of_R HO_5.out)
              go_wp2
              go_ret3
              exact ⟨by first | rfl | (simp [errW_none, errW_some] <;> rfl) | (simp [*, errW_none, errW_some] <;> rfl), by repeat (first | (with_reducible first | exact HB.out | apply below_alloc | apply pw_below_drewN | apply below_drew1) | exact HB.out)⟩
          · rw [if_neg c5] at H
            have c5b0 : ((bt a0 x6_1) == 34) = false := beq_eq_false_iff_ne.mpr c5
            have c5b1 : ((bt a0 x6_1) != 34) = true := bne_iff_ne.mpr c5
            by_cases c7 : (bt a0 x6_1) = 92
            · rw [if_pos c7] at H
              have c7b0 : ((bt a0 x6_1) == 92) = true := beq_iff_eq.mpr c7
              have c7b1 : ((bt a0 x6_1) != 92) = false := bne_eq_false_iff_eq.mpr c7
              clear c7
              obtain ⟨ji8, hji8⟩ : ∃ j_ : Int, (wrap64 (x6_1 + 1)) = j_ := ⟨_, rfl⟩
              replace H : (if 0 ≤ (ji8) then (if (ji8) ≤ (a0.size : Int) then ((lexer_escaped.f k1 (a0.extract ((ji8) : Int).toNat a0.size)).bind fun bt104 => (if bt104.2 = 0 then (some ((⟨#[]⟩ : ByteArray), x6_1, false)) else (if x5_1.length < 140737488355328 then (lexer_literal.l0 k1 a0 (x5_1 ++ [bt104.1]) (wrap64 ((wrap64 (x6_1 + bt104.2)) + 1))) else (none)))) else (none)) else (none)) = some (r1, r2, r3) := by first | (rw [hji8] at H; exact H) | (simp only [hji8] at H ⊢; exact H)
              have hji8w : (IntKind.i64.wrap (x6_1 + 1)) = ji8 := (i64_w _).trans hji8
              by_cases c9 : 0 ≤ (ji8)
              · rw [if_pos c9] at H
                have c9b0 := eq_true c9
                have c9b1 : decide (0 ≤ (ji8)) = true := decide_eq_true c9
                clear c9
                by_cases c10 : (ji8) ≤ (a0.size : Int)
                · rw [if_pos c10] at H
                  have c10b0 := eq_true c10
                  have c10b1 : decide ((ji8) ≤ (a0.size : Int)) = true := decide_eq_true c10
                  clear c10
                  replace H := Option.bind_eq_some_iff.mp H
                  obtain ⟨⟨t104, t105⟩, A110, H⟩ := H
                  replace H : (if t105 = 0 then (some ((⟨#[]⟩ : ByteArray), x6_1, false)) else (if x5_1.length < 140737488355328 then (lexer_literal.l0 k1 a0 (x5_1 ++ [t104]) (wrap64 ((wrap64 (x6_1 + t105)) + 1))) else (none))) = some (r1, r2, r3) := H
                  have A11 := Aside0.mk A110
                  clear A110
                  by_cases c12 : t105 = 0
                  · rw [if_pos c12] at H
                    have c12b0 : (t105 == 0) = true := beq_iff_eq.mpr c12
                    have c12b1 : (t105 != 0) = false := bne_eq_false_iff_eq.mpr c12
                    clear c12
                    as_aux_lemma =>
                      simp only [Option.some.injEq, Prod.mk.injEq] at H
                      obtain ⟨rfl, rfl, rfl⟩ := H
                      have p4 : 0 ≤ (x6_1 : Int) := of_decide_eq_true (by first | (with_reducible assumption) | assumption)
                      have q4 : x6_1 < (a0.size : Int) := of_decide_eq_true (by first | (with_reducible assumption) | assumption)
                      have hx4 := bt_at a0 x6_1
                      replace p4 := eq_true p4
                      replace q4 := eq_true q4
                      go_wp2_with (first | ((with_reducible refine gate_callee (f := 23) rfl ?_); refine goesL_ (some 37) rfl rfl Tryd.func23 (by kernel_rfl) rfl #[.string (a0.extract ((ji8) : Int).toNat a0.size)] rfl (by (try simp only [List.map_toArray, List.map_cons, List.map_nil]); first | done | (simp only [hji8]; rfl) | rfl | (simp only [List.length_drop, List.length_take]; rfl)) ?_; (with_reducible refine (lexer_escaped.calls k1 (a0.extract ((ji8) : Int).toNat a0.size) t104 t105 _ A11.out).mono ?_); rintro e w13 ⟨rfl, hb⟩; refine ⟨_, rfl, ?_⟩; have n0_ := Aside0.mk (Kd.R_below (by (with_reducible repeat (first | apply Kd.R_alloc | apply Kd.R_drewN | apply Kd.R_drew)); exact HO_5.out) hb); have n1_ := Aside0.mk (below_step (by repeat (first | (with_reducible first | exact HB.out | apply below_alloc | apply pw_below_drewN | apply below_drew1) | exact HB.out)) hb); clear HO_5; clear HB; have HO_5 := n0_; have HB := n1_; clear n0_ n1_; (try clear hb); (try clear hb2); (try clear hk); (try clear hi)))
                      go_ret3
                      exact ⟨by first | rfl | (simp [errW_none, errW_some] <;> rfl) | (simp only [← hji8]; first | rfl | (simp [errW_none, errW_some] <;> rfl)) | (simp [*, errW_none, errW_some] <;> rfl), by repeat (first | (with_reducible first | exact HB.out | apply below_alloc | apply pw_below_drewN | apply below_drew1) | exact HB.out)⟩
                  · rw [if_neg c12] at H
                    have c12b0 : (t105 == 0) = false := beq_eq_false_iff_ne.mpr c12
                    have c12b1 : (t105 != 0) = true := bne_iff_ne.mpr c12
                    by_cases c14 : x5_1.length < 140737488355328
                    · rw [if_pos c14] at H
                      have LMc14 := Aside0.mk c14
                      clear c14
                      obtain ⟨y106, hy106⟩ : ∃ y_ : List Int, y_ = (x5_1 ++ [t104]) := ⟨_, rfl⟩
                      replace H : (lexer_literal.l0 k1 a0 y106 (wrap64 ((wrap64 (x6_1 + t105)) + 1))) = some (r1, r2, r3) := by first | (rw [hy106]; with_reducible exact H) | (have H2_ := (Option.bind_some _ _).symm.trans H; rw [hy106]; with_reducible exact H2_) | (have H2_ := (Option.bind_some _ _).symm.trans H; with_reducible exact H2_) | with_reducible exact H | (rw [hy106]; exact H) | exact H
                      have Ny106 := Aside0.mk hy106
                      clear hy106
                      as_aux_lemma =>
                        have H' := Aside0.mk H
                        clear H
                        have p4 : 0 ≤ (x6_1 : Int) := of_decide_eq_true (by first | (with_reducible assumption) | assumption)
                        have q4 : x6_1 < (a0.size : Int) := of_decide_eq_true (by first | (with_reducible assumption) | assumption)
                        have hx4 := bt_at a0 x6_1
                        replace p4 := eq_true p4
                        replace q4 := eq_true q4
                        go_wp2_with (first | ((with_reducible refine gate_callee (f := 23) rfl ?_); refine goesL_ (some 37) rfl rfl Tryd.func23 (by kernel_rfl) rfl #[.string (a0.extract ((ji8) : Int).toNat a0.size)] rfl (by (try simp only [List.map_toArray, List.map_cons, List.map_nil]); first | done | (simp only [hji8]; rfl) | rfl | (simp only [List.length_drop, List.length_take]; rfl)) ?_; (with_reducible refine (lexer_escaped.calls k1 (a0.extract ((ji8) : Int).toNat a0.size) t104 t105 _ A11.out).mono ?_); rintro e w15 ⟨rfl, hb⟩; refine ⟨_, rfl, ?_⟩; have n0_ := Aside0.mk (Kd.R_below (by (with_reducible repeat (first | apply Kd.R_alloc | apply Kd.R_drewN | apply Kd.R_drew)); exact HO_5.out) hb); have n1_ := Aside0.mk (below_step (by repeat (first | (with_reducible first | exact HB.out | apply below_alloc | apply pw_below_drewN | apply below_drew1) | exact HB.out)) hb); clear HO_5; clear HB; have HO_5 := n0_; have HB := n1_; clear n0_ n1_; (try clear hb); (try clear hb2); (try clear hk); (try clear hi)) | ((with_reducible refine gate_builtin (b := .append) (xs := #[.tmp 43, .tmp 45]) rfl ?_); at_builtin; refine Kd.R_append (Kd.int .u8) (w0 := w) w.heap.size rfl (.tmp 43) (.tmp 45) 37 5 (.int .u8 0) 1 rfl Tryd.underlying37 info5 rfl (by decide) (by omega) u5 x5_1 t104 [.int .u8 t104] (fun _ => True) (fun _ => False) rfl rfl ?aP (fun _ hk => hk.elim) ?aF ?aO ?aB ?aS ?aL ?_; (case aP => exact rfl); (case aB => exact (by repeat (first | (with_reducible first | exact HB.out | apply below_alloc | apply pw_below_drewN | apply below_drew1) | exact HB.out))); (case aF => exact (fun _ _ => trivial)); (case aO => exact (by (with_reducible repeat (first | apply Kd.R_alloc | apply Kd.R_drewN | apply Kd.R_drew)); exact HO_5.out)); (case aS => exact (below_size (by repeat (first | (with_reducible first | exact HB.out | apply below_alloc | apply pw_below_drewN | apply below_drew1) | exact HB.out)))); (case aL => have := LMc14.out; omega); intro v107 w16 ho hb hg hat; rw [← Ny106.out] at ho; have n0_ := Aside0.mk (hb); have n1_ := Aside0.mk (ho); clear HB; clear HO_5; have HB := n0_; have HO108 := n1_; clear n0_ n1_; clear ho hb hg hat))
                        go_roundg k1
                        case measure => have := HK1.out; omega
                        case rel => exact ⟨(y106), (wrap64 ((wrap64 (x6_1 + t105)) + 1)), (by first | rfl | (simp; done) | (simp [*]; done)), H', ⟨by have := HK1.out; omega⟩, ⟨by (with_reducible repeat (first | apply Kd.R_alloc | apply Kd.R_drewN | apply Kd.R_drew)); exact HO108.out⟩, ⟨by repeat (first | (with_reducible first | exact HB.out | apply below_alloc | apply pw_below_drewN | apply below_drew1) | exact HB.out)⟩⟩
                    · rw [if_neg c14] at H
                      exact absurd H (by simp)
                · rw [if_neg c10] at H
                  exact absurd H (by simp)
              · rw [if_neg c9] at H
                exact absurd H (by simp)
            · rw [if_neg c7] at H
              have c7b0 : ((bt a0 x6_1) == 92) = false := beq_eq_false_iff_ne.mpr c7
              have c7b1 : ((bt a0 x6_1) != 92) = true := bne_iff_ne.mpr c7
              by_cases c18 : x5_1.length < 140737488355328
              · rw [if_pos c18] at H
                have LMc18 := Aside0.mk c18
                clear c18
                obtain ⟨y109, hy109⟩ : ∃ y_ : List Int, y_ = (x5_1 ++ [bt a0 x6_1]) := ⟨_, rfl⟩
                replace H : (lexer_literal.l0 k1 a0 y109 (wrap64 (x6_1 + 1))) = some (r1, r2, r3) := by first | (rw [hy109]; with_reducible exact H) | (have H2_ := (Option.bind_some _ _).symm.trans H; rw [hy109]; with_reducible exact H2_) | (have H2_ := (Option.bind_some _ _).symm.trans H; with_reducible exact H2_) | with_reducible exact H | (rw [hy109]; exact H) | exact H
                have Ny109 := Aside0.mk hy109
                clear hy109
                as_aux_lemma =>
                  have H' := Aside0.mk H
                  clear H
                  have p4 : 0 ≤ (x6_1 : Int) := of_decide_eq_true (by first | (with_reducible assumption) | assumption)
                  have q4 : x6_1 < (a0.size : Int) := of_decide_eq_true (by first | (with_reducible assumption) | assumption)
                  have hx4 := bt_at a0 x6_1
                  replace p4 := eq_true p4
                  replace q4 := eq_true q4
                  have p17 : 0 ≤ (x6_1 : Int) := of_decide_eq_true (by first | (with_reducible assumption) | assumption)
                  have q17 : x6_1 < (a0.size : Int) := of_decide_eq_true (by first | (with_reducible assumption) | assumption)
                  have hx17 := bt_at a0 x6_1
                  replace p17 := eq_true p17
                  replace q17 := eq_true q17
                  go_wp2_with (first | ((with_reducible refine gate_builtin (b := .append) (xs := #[.tmp 18, .tmp 22]) rfl ?_); at_builtin; refine Kd.R_append (Kd.int .u8) (w0 := w) w.heap.size rfl (.tmp 18) (.tmp 22) 37 5 (.int .u8 0) 1 rfl Tryd.underlying37 info5 rfl (by decide) (by omega) u5 x5_1 (bt a0 x6_1) [.int .u8 (bt a0 x6_1)] (fun _ => True) (fun _ => False) rfl rfl ?aP (fun _ hk => hk.elim) ?aF ?aO ?aB ?aS ?aL ?_; (case aP => exact rfl); (case aB => exact (by repeat (first | (with_reducible first | exact HB.out | apply below_alloc | apply pw_below_drewN | apply below_drew1) | exact HB.out))); (case aF => exact (fun _ _ => trivial)); (case aO => exact (by (with_reducible repeat (first | apply Kd.R_alloc | apply Kd.R_drewN | apply Kd.R_drew)); exact HO_5.out)); (case aS => exact (below_size (by repeat (first | (with_reducible first | exact HB.out | apply below_alloc | apply pw_below_drewN | apply below_drew1) | exact HB.out)))); (case aL => have := LMc18.out; omega); intro v110 w19 ho hb hg hat; rw [← Ny109.out] at ho; have n0_ := Aside0.mk (hb); have n1_ := Aside0.mk (ho); clear HB; clear HO_5; have HB := n0_; have HO111 := n1_; clear n0_ n1_; clear ho hb hg hat))
                  go_roundg k1
                  case measure => have := HK1.out; omega
                  case rel => exact ⟨(y109), (wrap64 (x6_1 + 1)), (by first | rfl | (simp; done) | (simp [*]; done)), H', ⟨by have := HK1.out; omega⟩, ⟨by (with_reducible repeat (first | apply Kd.R_alloc | apply Kd.R_drewN | apply Kd.R_drew)); exact HO111.out⟩, ⟨by repeat (first | (with_reducible first | exact HB.out | apply below_alloc | apply pw_below_drewN | apply below_drew1) | exact HB.out)⟩⟩
              · rw [if_neg c18] at H
                exact absurd H (by simp)
        · rw [if_neg c3] at H
          exact absurd H (by simp)
      · rw [if_neg c2] at H
        have c2b0 : decide (x6_1 < (a0.size : Int)) = false := decide_eq_false c2
        clear c2
        as_aux_lemma =>
          simp only [Option.some.injEq, Prod.mk.injEq] at H
          obtain ⟨rfl, rfl, rfl⟩ := H
          go_wp2
          go_ret3
          exact ⟨by first | rfl | (simp [errW_none, errW_some] <;> rfl) | (simp [*, errW_none, errW_some] <;> rfl), by repeat (first | (with_reducible first | exact HB.out | apply below_alloc | apply pw_below_drewN | apply below_drew1) | exact HB.out)⟩

/-! ### lexer_letter: function 16 -/
def lexer_letter.f (a0 : Int) : Option (Bool) := if 97 ≤ (Go.bits .or .u8 a0 32) then (some (decide ((Go.bits .or .u8 a0 32) ≤ 122))) else (some false)
set_option maxHeartbeats 8000000 in
set_option maxRecDepth 100000 in
theorem lexer_letter.calls (a0 : Int) (r : Bool) (w : World) (h : lexer_letter.f a0 = some r) :
    Calls Tryd.prog 16 #[.int .u8 a0] w fun e w' => e = .returned (.bool r) ∧ Drawn0 w w' := by
  have H : (if 97 ≤ (Go.bits .or .u8 a0 32) then (some (decide ((Go.bits .or .u8 a0 32) ≤ 122))) else (some false)) = some r := h
  clear h
  by_cases c2 : 97 ≤ (Go.bits .or .u8 a0 32)
  · rw [if_pos c2] at H
    have c2b0 : decide (97 ≤ (Go.bits .or .u8 a0 32)) = true := decide_eq_true c2
    clear c2
    as_aux_lemma =>
      obtain rfl := Option.some.inj H
      go_enter Tryd.func16, Tryd.ntmps16
      go_wp2
      go_ret
      exact ⟨by first | rfl | (simp; done) | (simp [*]; done), by repeat (first | exact Drawn0.refl _ | apply Drawn0.step)⟩
  · rw [if_neg c2] at H
    have c2b0 : decide (97 ≤ (Go.bits .or .u8 a0 32)) = false := decide_eq_false c2
    clear c2
    as_aux_lemma =>
      obtain rfl := Option.some.inj H
      go_enter Tryd.func16, Tryd.ntmps16
      go_wp2
      go_ret
      exact ⟨by first | rfl | (simp; done) | (simp [*]; done), by repeat (first | exact Drawn0.refl _ | apply Drawn0.step)⟩

/-! ### lexer_word: function 17 -/
def lexer_word.f (a0 : ByteArray) : Option (Int) := if a0.toList = ([65, 78, 68] : List UInt8) then (some 7) else (if a0.toList = ([79, 82] : List UInt8) then (some 8) else (if a0.toList = ([78, 79, 84] : List UInt8) then (some 9) else (some 0)))
set_option maxHeartbeats 8000000 in
set_option maxRecDepth 100000 in
theorem lexer_word.calls (a0 : ByteArray) (r : Int) (w : World) (h : lexer_word.f a0 = some r) :
    Calls Tryd.prog 17 #[.string a0] w fun e w' => e = .returned (.int .i64 r) ∧ Drawn0 w w' := by
  have H : (if a0.toList = ([65, 78, 68] : List UInt8) then (some 7) else (if a0.toList = ([79, 82] : List UInt8) then (some 8) else (if a0.toList = ([78, 79, 84] : List UInt8) then (some 9) else (some 0)))) = some r := h
  clear h
  by_cases c2 : a0.toList = ([65, 78, 68] : List UInt8)
  · rw [if_pos c2] at H
    have c2b0 : (a0.toList == ([65, 78, 68] : List UInt8)) = true := beq_iff_eq.mpr c2
    have c2b1 : (a0.toList != ([65, 78, 68] : List UInt8)) = false := bne_eq_false_iff_eq.mpr c2
    clear c2
    as_aux_lemma =>
      obtain rfl := Option.some.inj H
      go_enter Tryd.func17, Tryd.ntmps17
      go_wp2
      go_ret
      exact ⟨by first | rfl | (simp; done) | (simp [*]; done), by repeat (first | exact Drawn0.refl _ | apply Drawn0.step)⟩
  · rw [if_neg c2] at H
    have c2b0 : (a0.toList == ([65, 78, 68] : List UInt8)) = false := beq_eq_false_iff_ne.mpr c2
    have c2b1 : (a0.toList != ([65, 78, 68] : List UInt8)) = true := bne_iff_ne.mpr c2
    by_cases c3 : a0.toList = ([79, 82] : List UInt8)
    · rw [if_pos c3] at H
      have c3b0 : (a0.toList == ([79, 82] : List UInt8)) = true := beq_iff_eq.mpr c3
      have c3b1 : (a0.toList != ([79, 82] : List UInt8)) = false := bne_eq_false_iff_eq.mpr c3
      clear c3
      as_aux_lemma =>
        obtain rfl := Option.some.inj H
        go_enter Tryd.func17, Tryd.ntmps17
        go_wp2
        go_ret
        exact ⟨by first | rfl | (simp; done) | (simp [*]; done), by repeat (first | exact Drawn0.refl _ | apply Drawn0.step)⟩
    · rw [if_neg c3] at H
      have c3b0 : (a0.toList == ([79, 82] : List UInt8)) = false := beq_eq_false_iff_ne.mpr c3
      have c3b1 : (a0.toList != ([79, 82] : List UInt8)) = true := bne_iff_ne.mpr c3
      by_cases c4 : a0.toList = ([78, 79, 84] : List UInt8)
      · rw [if_pos c4] at H
        have c4b0 : (a0.toList == ([78, 79, 84] : List UInt8)) = true := beq_iff_eq.mpr c4
        have c4b1 : (a0.toList != ([78, 79, 84] : List UInt8)) = false := bne_eq_false_iff_eq.mpr c4
        clear c4
        as_aux_lemma =>
          obtain rfl := Option.some.inj H
          go_enter Tryd.func17, Tryd.ntmps17
          go_wp2
          go_ret
          exact ⟨by first | rfl | (simp; done) | (simp [*]; done), by repeat (first | exact Drawn0.refl _ | apply Drawn0.step)⟩
      · rw [if_neg c4] at H
        have c4b0 : (a0.toList == ([78, 79, 84] : List UInt8)) = false := beq_eq_false_iff_ne.mpr c4
        have c4b1 : (a0.toList != ([78, 79, 84] : List UInt8)) = true := bne_iff_ne.mpr c4
        as_aux_lemma =>
          obtain rfl := Option.some.inj H
          go_enter Tryd.func17, Tryd.ntmps17
          go_wp2
          go_ret
          exact ⟨by first | rfl | (simp; done) | (simp [*]; done), by repeat (first | exact Drawn0.refl _ | apply Drawn0.step)⟩

/-! ### strings_IndexByte: function 18 -/
/-- strings.IndexByte. -/
def strings_IndexByte.f (a0 : ByteArray) (a1 : Int) : Option Int := some (Lib.indexByte a0.data.toList a1.toNat.toUInt8)
theorem strings_IndexByte.calls (a0 : ByteArray) (a1 : Int) (r : Int) (w : World) (h : strings_IndexByte.f a0 a1 = some r) :
    Calls Tryd.prog 18 #[.string a0, .int .u8 a1] w fun e w' => e = .returned (.int .i64 r) ∧ Drawn0 w w' := by
  obtain rfl := Option.some.inj h
  refine (Tryd.strings_IndexByte a0 a1 w).mono ?_
  rintro e w' ⟨rfl, rfl⟩
  exact ⟨rfl, Drawn0.refl _⟩

end Go.Proofs.YtfoijdahgkngpaaDoor.L
