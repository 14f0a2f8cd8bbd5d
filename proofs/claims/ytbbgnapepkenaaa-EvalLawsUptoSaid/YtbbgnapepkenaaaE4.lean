-- Written for this claim by a program of this session (over the kit's print tool): functions as Lean functions, their contracts, rows. Lean checks it.
import Derived.Test.YtbbgnapepkenaaaE0
import Derived.Test.YtbbgnapepkenaaaE2
import Derived.Test.YtbbgnapepkenaaaE3
namespace Go.Proofs.Ytbbgnapepkenaaa.E
open Go.RowKit Go.Proofs.YtbbgnapepkenaaaW.PrintWords Go.Proofs.YtbbgnapepkenaaaW.PrintLast Go.Proofs.YtbbgnapepkenaaaW.PrintMore
attribute [local go_sem] max2_int min2_int max_two min_two max_three min_three max_four min_four   -- for this text's walks alone
set_option linter.unusedVariables false
set_option linter.unusedSimpArgs false

/-! ### eval_Match: function 25 -/
def eval_Match.f (k : Nat) (a0_0 : Int) (l0_1 : List ByteArray) (l0_2 : List (S40)) (a1 : ByteArray) : Option (Bool) := (eval_match.f k a0_0 l0_1 l0_2 a1 0).bind fun t110 => (some t110)
theorem eval_Match.mono : ∀ a0 a1 a2 a3 k, LeO (eval_Match.f k a0 a1 a2 a3) (eval_Match.f (k + 1) a0 a1 a2 a3) := by
 intro a0 a1 a2 a3 k
 unfold eval_Match.f
 repeat' first
   | (with_reducible exact eval_match.mono _ _ _ _ _ _)
   | (with_reducible exact LeO.refl _)
   | (with_reducible exact LeO.none _)
   | (with_reducible refine LeO.ite ?_ ?_)
   | (with_reducible refine LeO.bind ?_ (fun _ => ?_))
   | exact eval_match.mono _ _ _ _ _ _
   | exact LeO.none _
   | refine LeO.ite ?_ ?_
   | refine LeO.bind ?_ (fun _ => ?_)
set_option maxHeartbeats 8000000 in
set_option maxRecDepth 100000 in
theorem eval_Match.calls (k : Nat) (a0_0 : Int) (A0_1 : Option Addr) (c0_1 : Nat) (l0_1 : List ByteArray) (A0_2 : Option Addr) (c0_2 : Nat) (l0_2 : List (S40)) (a1 : ByteArray) (r : Bool) (w : World) (hG : GlobOk w) (hr0_1 : Kd.C Kd.string w A0_1 l0_1.length l0_1) (hc0_1 : l0_1.length ≤ c0_1) (hr0_2 : Kd.C k40 w A0_2 l0_2.length l0_2) (hc0_2 : l0_2.length ≤ c0_2) (h : eval_Match.f k a0_0 l0_1 l0_2 a1 = some r) :
  Calls Try.prog 25 #[.agg #[.int .i64 a0_0, .slice A0_1 l0_1.length c0_1, .slice A0_2 l0_2.length c0_2], .string a1] w fun e w' => e = .returned (.bool r) ∧ Below w.heap.size w w' := by
 have hu40 := Try.underlying40
 have HG := am hG
 clear hG
 have HR0_1 := am hr0_1
 have HC0_1 := am hc0_1
 clear hr0_1 hc0_1
 have HR0_2 := am hr0_2
 have HC0_2 := am hc0_2
 clear hr0_2 hc0_2
 have HB := am (Below.refl w.heap.size w)
 have H : ((eval_match.f k a0_0 l0_1 l0_2 a1 0).bind fun t110 => (some t110)) = some r := h
 clear h
 replace H := Option.bind_eq_some_iff.mp H
 obtain ⟨t110, A30, H⟩ := H
 replace H : (some t110) = some r := H
 have A3 := am A30
 clear A30
 obtain rfl := Option.some.inj H
 go_enter Try.func25, Try.ntmps25
 go_wp2_with (first | ((with_reducible refine gate_dst (N := 2) rfl ?_); refine box_event ?hg (N := 2) ?hd (cs := #[.int .i64 a0_0, .slice A0_1 l0_1.length c0_1, .slice A0_2 l0_2.length c0_2]) (t := 40) ?hr ?_; (case hd => rfl); (case hg => rfl); (case hr => first | (go_simp; done) | (go_simp; rfl)); intro gb109 hg w4 hbox hb; have BK109 := am (hbox); have GW109 := am ((by rw [hg]; exact (below_size (lU HB.out)) : w.heap.size ≤ gb109)); have GE109 := am ((by rw [hg]; exact (below_size (lU HB.out)) : w.heap.size ≤ gb109)); replace HB := am (below_step (lU HB.out) hb); clear hb hbox hg; have hcz5_0 : w4.cell? ⟨gb109, 0, none⟩ = some (.int .i64 a0_0) := (blk_cell BK109.out 0).trans rfl; have hcz5_1 : w4.cell? ⟨gb109, 1, none⟩ = some (.slice A0_1 l0_1.length c0_1) := (blk_cell BK109.out 1).trans rfl; have hcz5_2 : w4.cell? ⟨gb109, 2, none⟩ = some (.slice A0_2 l0_2.length c0_2) := (blk_cell BK109.out 2).trans rfl; have hfz5_0 := blk_frozen BK109.out 0; have hfz5_1 := blk_frozen BK109.out 1; have hfz5_2 := blk_frozen BK109.out 2) | ((with_reducible refine gate_callee (f := 33) rfl ?_); refine goesL_ (some 7) rfl rfl Try.func33 (by kernel_rfl) rfl #[.agg #[.int .i64 a0_0, .slice A0_1 l0_1.length c0_1, .slice A0_2 l0_2.length c0_2], .string a1, .int .i64 0] rfl (by (try simp only [List.map_toArray, List.map_cons, List.map_nil]); first | done | rfl | (simp only [List.length_drop, List.length_take]; rfl)) ?_; (with_reducible refine (eval_match.calls k a0_0 _ _ l0_1 _ _ l0_2 a1 0 t110 _ ?side1 ?side2 ?side3 ?side4 ?side5 A3.out).mono ?_); (case side1 => first | exact GlobOk.below HG.out (by repeat first | exact lU HB.out | refine below_set ?_ GE109.out | apply below_alloc | apply pw_below_drewN | apply below_drew1) | (repeat (first | exact HG.out | (with_reducible refine GlobOk.alloc ?_ _) | (with_reducible refine GlobOk.drewN ?_ _) | (with_reducible refine GlobOk.drew ?_)))); (case side2 => repeat (first | exact (Kd.C_below HR0_1.out HB.out) | (with_reducible refine Kd.C_alloc ?_ _) | (with_reducible refine Kd.C_drewN ?_ _) | (with_reducible refine Kd.C_drew ?_))); (case side3 => exact HC0_1.out); (case side4 => repeat (first | exact (Kd.C_below HR0_2.out HB.out) | (with_reducible refine Kd.C_alloc ?_ _) | (with_reducible refine Kd.C_drewN ?_ _) | (with_reducible refine Kd.C_drew ?_))); (case side5 => exact HC0_2.out); rintro e w6 ⟨rfl, hb⟩; refine ⟨_, rfl, ?_⟩; replace BK109 := am (blk_below (bU BK109.out) hb); replace HB := am (below_step (by repeat first | exact lU HB.out | refine below_set ?_ GE109.out | apply below_alloc | apply pw_below_drewN | apply below_drew1) hb); (try clear hb); (try clear hb2); (try clear hk); (try clear hi)))
 go_ret
 exact ⟨by first | rfl | (simp [errW_none, errW_some] <;> rfl) | (simp [*, errW_none, errW_some] <;> rfl), by repeat (first | (with_reducible first | exact HB.out | apply below_alloc | apply pw_below_drewN | apply below_drew1 | refine below_set ?_ GE109.out) | exact HB.out)⟩

/-! ### verbatimlaw20_head: function 21 -/
def verbatimlaw20_head.f (k : Nat)  : Option (Bool) := (eval_Find.f k (([(⟨#[97, 98]⟩ : ByteArray), (⟨#[98]⟩ : ByteArray)] : List ByteArray)) (⟨#[97, 98, 97, 98]⟩ : ByteArray)).bind fun bt114 => ((eval_Find.f k (([(⟨#[97, 98]⟩ : ByteArray), (⟨#[98, 97, 98]⟩ : ByteArray)] : List ByteArray)) (⟨#[97, 98, 97, 98]⟩ : ByteArray)).bind fun bt121 => (if bt114.2 = true then (if (bt114.1.length : Int) = 2 then (if 1 < (bt114.1.length : Int) then (if (rd bt114.1 1) = 3 then (if bt121.2 = true then (some false) else ((eval_Match.f k 1 (([(⟨#[98, 97]⟩ : ByteArray)] : List ByteArray)) ([] : List (S40)) (⟨#[97, 98, 97, 98]⟩ : ByteArray)).bind fun t129 => (if t129 = true then ((eval_Match.f k 2 (([(⟨#[98]⟩ : ByteArray)] : List ByteArray)) ([] : List (S40)) (⟨#[97, 98, 97, 98]⟩ : ByteArray)).bind fun t133 => (some (!t133))) else (some false)))) else (some false)) else (none)) else (some false)) else (some false)))
theorem verbatimlaw20_head.mono : ∀ k, LeO (verbatimlaw20_head.f k ) (verbatimlaw20_head.f (k + 1) ) := by
 intro  k
 unfold verbatimlaw20_head.f
 repeat' first
   | (with_reducible exact eval_Find.mono _ _ _)
   | (with_reducible exact eval_Match.mono _ _ _ _ _)
   | (with_reducible exact LeO.refl _)
   | (with_reducible exact LeO.none _)
   | (with_reducible refine LeO.ite ?_ ?_)
   | (with_reducible refine LeO.bind ?_ (fun _ => ?_))
   | exact eval_Find.mono _ _ _
   | exact eval_Match.mono _ _ _ _ _
   | exact LeO.none _
   | refine LeO.ite ?_ ?_
   | refine LeO.bind ?_ (fun _ => ?_)
set_option maxHeartbeats 8000000 in
set_option maxRecDepth 100000 in
theorem verbatimlaw20_head.calls (k : Nat)  (r : Bool) (w : World) (hG : GlobOk w) (h : verbatimlaw20_head.f k  = some r) :
  Calls Try.prog 21 #[] w fun e w' => e = .returned (.bool r) ∧ Below w.heap.size w w' := by
 have hu40 := Try.underlying40
 have HG := am hG
 clear hG
 have HB := am (Below.refl w.heap.size w)
 have H : ((eval_Find.f k (([(⟨#[97, 98]⟩ : ByteArray), (⟨#[98]⟩ : ByteArray)] : List ByteArray)) (⟨#[97, 98, 97, 98]⟩ : ByteArray)).bind fun bt114 => ((eval_Find.f k (([(⟨#[97, 98]⟩ : ByteArray), (⟨#[98, 97, 98]⟩ : ByteArray)] : List ByteArray)) (⟨#[97, 98, 97, 98]⟩ : ByteArray)).bind fun bt121 => (if bt114.2 = true then (if (bt114.1.length : Int) = 2 then (if 1 < (bt114.1.length : Int) then (if (rd bt114.1 1) = 3 then (if bt121.2 = true then (some false) else ((eval_Match.f k 1 (([(⟨#[98, 97]⟩ : ByteArray)] : List ByteArray)) ([] : List (S40)) (⟨#[97, 98, 97, 98]⟩ : ByteArray)).bind fun t129 => (if t129 = true then ((eval_Match.f k 2 (([(⟨#[98]⟩ : ByteArray)] : List ByteArray)) ([] : List (S40)) (⟨#[97, 98, 97, 98]⟩ : ByteArray)).bind fun t133 => (some (!t133))) else (some false)))) else (some false)) else (none)) else (some false)) else (some false)))) = some r := h
 clear h
 obtain ⟨y111, hy111⟩ : ∃ y_ : List ByteArray, y_ = (([(⟨#[97, 98]⟩ : ByteArray), (⟨#[98]⟩ : ByteArray)] : List ByteArray)) := ⟨_, rfl⟩
 replace H : ((eval_Find.f k y111 (⟨#[97, 98, 97, 98]⟩ : ByteArray)).bind fun bt114 => ((eval_Find.f k (([(⟨#[97, 98]⟩ : ByteArray), (⟨#[98, 97, 98]⟩ : ByteArray)] : List ByteArray)) (⟨#[97, 98, 97, 98]⟩ : ByteArray)).bind fun bt121 => (if bt114.2 = true then (if (bt114.1.length : Int) = 2 then (if 1 < (bt114.1.length : Int) then (if (rd bt114.1 1) = 3 then (if bt121.2 = true then (some false) else ((eval_Match.f k 1 (([(⟨#[98, 97]⟩ : ByteArray)] : List ByteArray)) ([] : List (S40)) (⟨#[97, 98, 97, 98]⟩ : ByteArray)).bind fun t129 => (if t129 = true then ((eval_Match.f k 2 (([(⟨#[98]⟩ : ByteArray)] : List ByteArray)) ([] : List (S40)) (⟨#[97, 98, 97, 98]⟩ : ByteArray)).bind fun t133 => (some (!t133))) else (some false)))) else (some false)) else (none)) else (some false)) else (some false)))) = some r := by first | (rw [hy111]; with_reducible exact H) | (have H2_ := (Option.bind_some _ _).symm.trans H; rw [hy111]; with_reducible exact H2_) | (have H2_ := (Option.bind_some _ _).symm.trans H; with_reducible exact H2_) | with_reducible exact H | (rw [hy111]; exact H) | exact H
 have Ny111 := am hy111
 clear hy111
 replace H := Option.bind_eq_some_iff.mp H
 obtain ⟨⟨t114, t115⟩, A10, H⟩ := H
 replace H : ((eval_Find.f k (([(⟨#[97, 98]⟩ : ByteArray), (⟨#[98, 97, 98]⟩ : ByteArray)] : List ByteArray)) (⟨#[97, 98, 97, 98]⟩ : ByteArray)).bind fun bt121 => (if t115 = true then (if (t114.length : Int) = 2 then (if 1 < (t114.length : Int) then (if (rd t114 1) = 3 then (if bt121.2 = true then (some false) else ((eval_Match.f k 1 (([(⟨#[98, 97]⟩ : ByteArray)] : List ByteArray)) ([] : List (S40)) (⟨#[97, 98, 97, 98]⟩ : ByteArray)).bind fun t129 => (if t129 = true then ((eval_Match.f k 2 (([(⟨#[98]⟩ : ByteArray)] : List ByteArray)) ([] : List (S40)) (⟨#[97, 98, 97, 98]⟩ : ByteArray)).bind fun t133 => (some (!t133))) else (some false)))) else (some false)) else (none)) else (some false)) else (some false))) = some r := H
 have A1 := am A10
 clear A10
 obtain ⟨y118, hy118⟩ : ∃ y_ : List ByteArray, y_ = (([(⟨#[97, 98]⟩ : ByteArray), (⟨#[98, 97, 98]⟩ : ByteArray)] : List ByteArray)) := ⟨_, rfl⟩
 replace H : ((eval_Find.f k y118 (⟨#[97, 98, 97, 98]⟩ : ByteArray)).bind fun bt121 => (if t115 = true then (if (t114.length : Int) = 2 then (if 1 < (t114.length : Int) then (if (rd t114 1) = 3 then (if bt121.2 = true then (some false) else ((eval_Match.f k 1 (([(⟨#[98, 97]⟩ : ByteArray)] : List ByteArray)) ([] : List (S40)) (⟨#[97, 98, 97, 98]⟩ : ByteArray)).bind fun t129 => (if t129 = true then ((eval_Match.f k 2 (([(⟨#[98]⟩ : ByteArray)] : List ByteArray)) ([] : List (S40)) (⟨#[97, 98, 97, 98]⟩ : ByteArray)).bind fun t133 => (some (!t133))) else (some false)))) else (some false)) else (none)) else (some false)) else (some false))) = some r := by first | (rw [hy118]; with_reducible exact H) | (have H2_ := (Option.bind_some _ _).symm.trans H; rw [hy118]; with_reducible exact H2_) | (have H2_ := (Option.bind_some _ _).symm.trans H; with_reducible exact H2_) | with_reducible exact H | (rw [hy118]; exact H) | exact H
 have Ny118 := am hy118
 clear hy118
 replace H := Option.bind_eq_some_iff.mp H
 obtain ⟨⟨t121, t122⟩, A20, H⟩ := H
 replace H : (if t115 = true then (if (t114.length : Int) = 2 then (if 1 < (t114.length : Int) then (if (rd t114 1) = 3 then (if t122 = true then (some false) else ((eval_Match.f k 1 (([(⟨#[98, 97]⟩ : ByteArray)] : List ByteArray)) ([] : List (S40)) (⟨#[97, 98, 97, 98]⟩ : ByteArray)).bind fun t129 => (if t129 = true then ((eval_Match.f k 2 (([(⟨#[98]⟩ : ByteArray)] : List ByteArray)) ([] : List (S40)) (⟨#[97, 98, 97, 98]⟩ : ByteArray)).bind fun t133 => (some (!t133))) else (some false)))) else (some false)) else (none)) else (some false)) else (some false)) = some r := H
 have A2 := am A20
 clear A20
 by_cases c3 : t115 = true
 ·subst c3
  have H1 : (if (t114.length : Int) = 2 then (if 1 < (t114.length : Int) then (if (rd t114 1) = 3 then (if t122 = true then (some false) else ((eval_Match.f k 1 (([(⟨#[98, 97]⟩ : ByteArray)] : List ByteArray)) ([] : List (S40)) (⟨#[97, 98, 97, 98]⟩ : ByteArray)).bind fun t129 => (if t129 = true then ((eval_Match.f k 2 (([(⟨#[98]⟩ : ByteArray)] : List ByteArray)) ([] : List (S40)) (⟨#[97, 98, 97, 98]⟩ : ByteArray)).bind fun t133 => (some (!t133))) else (some false)))) else (some false)) else (none)) else (some false)) = some r := by rw [if_pos rfl] at H; exact H
  clear H
  have H := H1
  clear H1
  by_cases c4 : (t114.length : Int) = 2
  ·rw [if_pos c4] at H
   have c4b0 : ((t114.length : Int) == 2) = true := beq_iff_eq.mpr c4
   have c4b1 : ((t114.length : Int) != 2) = false := bne_eq_false_iff_eq.mpr c4
   clear c4
   by_cases c5 : 1 < (t114.length : Int)
   ·rw [if_pos c5] at H
    have c5b0 : decide (1 < (t114.length : Int)) = true := decide_eq_true c5
    have c5b1 : decide (1 < t114.length) = true := decide_eq_true (by omega)
    clear c5
    by_cases c6 : (rd t114 1) = 3
    ·rw [if_pos c6] at H
     have c6b0 : ((rd t114 1) == 3) = true := beq_iff_eq.mpr c6
     have c6b1 : ((rd t114 1) != 3) = false := bne_eq_false_iff_eq.mpr c6
     clear c6
     by_cases c7 : t122 = true
     ·subst c7
      have H1 : (some false) = some r := by rw [if_pos rfl] at H; exact H
      clear H
      have H := H1
      clear H1
      obtain rfl := Option.some.inj H
      go_enter Try.func21, Try.ntmps21
      go_wp2_with (first | ((with_reducible refine gate_dst (N := 6) rfl ?_); (try (refine gate_guard (by rfl) ?_; dsimp only)); refine Kd.R_lit Kd.string _ 9 ?hg (N := 6) ?hd (xs := ([(⟨#[97, 98]⟩ : ByteArray), (⟨#[98]⟩ : ByteArray)] : List ByteArray)) (inner := [.string (⟨#[97, 98]⟩ : ByteArray), .string (⟨#[98]⟩ : ByteArray)]) (ok := fun _ => True) (okp := fun _ => True) ?hr ?hp (fun _ hk => hk) trivial (Below.refl _ _) (Nat.le_refl _) (by simp) ?_; (case hd => rfl); (case hg => rfl); (case hr => first | (go_simp; done) | (go_simp; rfl)); (case hp => exact (Reps.one (show Kd.M Kd.string _ _ _ (⟨#[97, 98]⟩ : ByteArray) [.string (⟨#[97, 98]⟩ : ByteArray)] from rfl) (Reps.one (show Kd.M Kd.string _ _ _ (⟨#[98]⟩ : ByteArray) [.string (⟨#[98]⟩ : ByteArray)] from rfl) (Reps.none _ _)))); intro v112 w8 ho9 hb hg_ hnew_; clear hg_ hnew_; (first | rw [← Ny111.out] at ho9 | (simp only [Int.reduceToNat] at ho9; rw [← Ny111.out] at ho9)); have HO113 := am (Kd.R_lower ho9 (below_size (lU HB.out))); replace HB := am (below_step (lU HB.out) hb); clear hb ho9; obtain ⟨Ao10, co10, eo10⟩ := Kd.R_slice HO113.out; subst eo10) | ((with_reducible refine gate_callee (f := 23) rfl ?_); refine goesL_ (some 7) rfl rfl Try.func23 (by kernel_rfl) rfl #[.slice Ao10 y111.length co10, .string (⟨#[97, 98, 97, 98]⟩ : ByteArray)] rfl (by (try simp only [List.map_toArray, List.map_cons, List.map_nil]); first | done | rfl | (simp only [List.length_drop, List.length_take]; rfl)) ?_; (with_reducible refine (eval_Find.calls k _ _ y111 (⟨#[97, 98, 97, 98]⟩ : ByteArray) t114 true _ ?side1 ?side2 ?side3 A1.out).mono ?_); (case side1 => first | exact GlobOk.below HG.out (lU HB.out) | (repeat (first | exact HG.out | (with_reducible refine GlobOk.alloc ?_ _) | (with_reducible refine GlobOk.drewN ?_ _) | (with_reducible refine GlobOk.drew ?_)))); (case side2 => repeat (first | exact (Kd.R_reads' HO113.out).2.2 | (with_reducible refine Kd.C_alloc ?_ _) | (with_reducible refine Kd.C_drewN ?_ _) | (with_reducible refine Kd.C_drew ?_))); (case side3 => exact (Kd.R_reads' HO113.out).2.1); rintro e w11 ⟨v116, rfl, ho0, hb⟩; refine ⟨_, rfl, ?_⟩; replace HO113 := am (Kd.R_below (rU HO113.out) hb); have HO117 := am (Kd.R_lower ho0 (below_size (lU HB.out))); replace HB := am (below_step (lU HB.out) hb); (try clear hb); (try clear hb2); (try clear hk); (try clear hi); (try clear ho0)) | ((with_reducible refine gate_dst (N := 11) rfl ?_); (try (refine gate_guard (by rfl) ?_; dsimp only)); refine Kd.R_lit Kd.string _ 9 ?hg (N := 11) ?hd (xs := ([(⟨#[97, 98]⟩ : ByteArray), (⟨#[98, 97, 98]⟩ : ByteArray)] : List ByteArray)) (inner := [.string (⟨#[97, 98]⟩ : ByteArray), .string (⟨#[98, 97, 98]⟩ : ByteArray)]) (ok := fun _ => True) (okp := fun _ => True) ?hr ?hp (fun _ hk => hk) trivial (Below.refl _ _) (Nat.le_refl _) (by simp) ?_; (case hd => rfl); (case hg => rfl); (case hr => first | (go_simp; done) | (go_simp; rfl)); (case hp => exact (Reps.one (show Kd.M Kd.string _ _ _ (⟨#[97, 98]⟩ : ByteArray) [.string (⟨#[97, 98]⟩ : ByteArray)] from rfl) (Reps.one (show Kd.M Kd.string _ _ _ (⟨#[98, 97, 98]⟩ : ByteArray) [.string (⟨#[98, 97, 98]⟩ : ByteArray)] from rfl) (Reps.none _ _)))); intro v119 w12 ho13 hb hg_ hnew_; clear hg_ hnew_; (first | rw [← Ny118.out] at ho13 | (simp only [Int.reduceToNat] at ho13; rw [← Ny118.out] at ho13)); replace HO117 := am (Kd.R_below (rU HO117.out) hb); have HO120 := am (Kd.R_lower (Kd.R_new' ho13 (Kd.R_lt (rU HO113.out))) (below_size (lU HB.out))); replace HO113 := am (Kd.R_elder' (rU HO113.out) (Kd.R_base ho13) hb); replace HB := am (below_step (lU HB.out) hb); clear hb ho13; obtain ⟨Ao14, co14, eo14⟩ := Kd.R_slice HO120.out; subst eo14) | ((with_reducible refine gate_callee (f := 23) rfl ?_); refine goesL_ (some 12) rfl rfl Try.func23 (by kernel_rfl) rfl #[.slice Ao14 y118.length co14, .string (⟨#[97, 98, 97, 98]⟩ : ByteArray)] rfl (by (try simp only [List.map_toArray, List.map_cons, List.map_nil]); first | done | rfl | (simp only [List.length_drop, List.length_take]; rfl)) ?_; (with_reducible refine (eval_Find.calls k _ _ y118 (⟨#[97, 98, 97, 98]⟩ : ByteArray) t121 true _ ?side1 ?side2 ?side3 A2.out).mono ?_); (case side1 => first | exact GlobOk.below HG.out (lU HB.out) | (repeat (first | exact HG.out | (with_reducible refine GlobOk.alloc ?_ _) | (with_reducible refine GlobOk.drewN ?_ _) | (with_reducible refine GlobOk.drew ?_)))); (case side2 => repeat (first | exact (Kd.R_reads' HO120.out).2.2 | (with_reducible refine Kd.C_alloc ?_ _) | (with_reducible refine Kd.C_drewN ?_ _) | (with_reducible refine Kd.C_drew ?_))); (case side3 => exact (Kd.R_reads' HO120.out).2.1); rintro e w15 ⟨v123, rfl, ho0, hb⟩; refine ⟨_, rfl, ?_⟩; replace HO113 := am (Kd.R_below (rU HO113.out) hb); replace HO120 := am (Kd.R_below (rU HO120.out) hb); have HO124 := am (Kd.R_lower (Kd.R_new' ho0 (Kd.R_lt (rU HO117.out))) (below_size (lU HB.out))); replace HO117 := am (Kd.R_elder' (rU HO117.out) (Kd.R_base ho0) hb); replace HB := am (below_step (lU HB.out) hb); (try clear hb); (try clear hb2); (try clear hk); (try clear hi); (try clear ho0); obtain ⟨Ao16, co16, eo16⟩ := Kd.R_slice HO117.out; subst eo16; have p125 : 0 ≤ (1 : Int) := (by omega); have q125 : 1 < (t114.length : Int) := of_decide_eq_true (by first | (with_reducible assumption) | assumption); obtain ⟨ad125, e125, hx125_0⟩ := Kd.at_int (Kd.R_reads' HO117.out).2.2 1 p125 q125; cases e125; (try simp only [show (1 : Int).toNat = 1 from rfl, Nat.reduceMul, Nat.reduceEqDiff, Go.Addr.add, ↓reduceIte] at hx125_0); have qi125 : (1 < t114.length) = True := eq_true (by omega); (try rw [show ((1 : Int)).toNat = 1 from rfl] at hx125_0); replace p125 := eq_true p125; replace q125 := eq_true q125))
      go_ret
      exact ⟨by first | rfl | (simp [errW_none, errW_some] <;> rfl) | (simp [*, errW_none, errW_some] <;> rfl), by repeat (first | (with_reducible first | exact HB.out | apply below_alloc | apply pw_below_drewN | apply below_drew1) | exact HB.out)⟩
     ·replace c7 := Bool.eq_false_iff.mpr c7
      subst c7
      have H1 : ((eval_Match.f k 1 (([(⟨#[98, 97]⟩ : ByteArray)] : List ByteArray)) ([] : List (S40)) (⟨#[97, 98, 97, 98]⟩ : ByteArray)).bind fun t129 => (if t129 = true then ((eval_Match.f k 2 (([(⟨#[98]⟩ : ByteArray)] : List ByteArray)) ([] : List (S40)) (⟨#[97, 98, 97, 98]⟩ : ByteArray)).bind fun t133 => (some (!t133))) else (some false))) = some r := by rw [if_neg (show ¬ (false = true) by decide)] at H; exact H
      clear H
      have H := H1
      clear H1
      obtain ⟨y126, hy126⟩ : ∃ y_ : List ByteArray, y_ = (([(⟨#[98, 97]⟩ : ByteArray)] : List ByteArray)) := ⟨_, rfl⟩
      replace H : ((eval_Match.f k 1 y126 ([] : List (S40)) (⟨#[97, 98, 97, 98]⟩ : ByteArray)).bind fun t129 => (if t129 = true then ((eval_Match.f k 2 (([(⟨#[98]⟩ : ByteArray)] : List ByteArray)) ([] : List (S40)) (⟨#[97, 98, 97, 98]⟩ : ByteArray)).bind fun t133 => (some (!t133))) else (some false))) = some r := by first | (rw [hy126]; with_reducible exact H) | (have H2_ := (Option.bind_some _ _).symm.trans H; rw [hy126]; with_reducible exact H2_) | (have H2_ := (Option.bind_some _ _).symm.trans H; with_reducible exact H2_) | with_reducible exact H | (rw [hy126]; exact H) | exact H
      have Ny126 := am hy126
      clear hy126
      replace H := Option.bind_eq_some_iff.mp H
      obtain ⟨t129, A170, H⟩ := H
      replace H : (if t129 = true then ((eval_Match.f k 2 (([(⟨#[98]⟩ : ByteArray)] : List ByteArray)) ([] : List (S40)) (⟨#[97, 98, 97, 98]⟩ : ByteArray)).bind fun t133 => (some (!t133))) else (some false)) = some r := H
      have A17 := am A170
      clear A170
      by_cases c18 : t129 = true
      ·subst c18
       have H1 : ((eval_Match.f k 2 (([(⟨#[98]⟩ : ByteArray)] : List ByteArray)) ([] : List (S40)) (⟨#[97, 98, 97, 98]⟩ : ByteArray)).bind fun t133 => (some (!t133))) = some r := by rw [if_pos rfl] at H; exact H
       clear H
       have H := H1
       clear H1
       obtain ⟨y130, hy130⟩ : ∃ y_ : List ByteArray, y_ = (([(⟨#[98]⟩ : ByteArray)] : List ByteArray)) := ⟨_, rfl⟩
       replace H : ((eval_Match.f k 2 y130 ([] : List (S40)) (⟨#[97, 98, 97, 98]⟩ : ByteArray)).bind fun t133 => (some (!t133))) = some r := by first | (rw [hy130]; with_reducible exact H) | (have H2_ := (Option.bind_some _ _).symm.trans H; rw [hy130]; with_reducible exact H2_) | (have H2_ := (Option.bind_some _ _).symm.trans H; with_reducible exact H2_) | with_reducible exact H | (rw [hy130]; exact H) | exact H
       have Ny130 := am hy130
       clear hy130
       replace H := Option.bind_eq_some_iff.mp H
       obtain ⟨t133, A190, H⟩ := H
       replace H : (some (!t133)) = some r := H
       have A19 := am A190
       clear A190
       obtain rfl := Option.some.inj H
       go_enter Try.func21, Try.ntmps21
       go_wp2_with (first | ((with_reducible refine gate_dst (N := 6) rfl ?_); (try (refine gate_guard (by rfl) ?_; dsimp only)); refine Kd.R_lit Kd.string _ 9 ?hg (N := 6) ?hd (xs := ([(⟨#[97, 98]⟩ : ByteArray), (⟨#[98]⟩ : ByteArray)] : List ByteArray)) (inner := [.string (⟨#[97, 98]⟩ : ByteArray), .string (⟨#[98]⟩ : ByteArray)]) (ok := fun _ => True) (okp := fun _ => True) ?hr ?hp (fun _ hk => hk) trivial (Below.refl _ _) (Nat.le_refl _) (by simp) ?_; (case hd => rfl); (case hg => rfl); (case hr => first | (go_simp; done) | (go_simp; rfl)); (case hp => exact (Reps.one (show Kd.M Kd.string _ _ _ (⟨#[97, 98]⟩ : ByteArray) [.string (⟨#[97, 98]⟩ : ByteArray)] from rfl) (Reps.one (show Kd.M Kd.string _ _ _ (⟨#[98]⟩ : ByteArray) [.string (⟨#[98]⟩ : ByteArray)] from rfl) (Reps.none _ _)))); intro v112 w20 ho21 hb hg_ hnew_; clear hg_ hnew_; (first | rw [← Ny111.out] at ho21 | (simp only [Int.reduceToNat] at ho21; rw [← Ny111.out] at ho21)); have HO113 := am (Kd.R_lower ho21 (below_size (lU HB.out))); replace HB := am (below_step (lU HB.out) hb); clear hb ho21; obtain ⟨Ao22, co22, eo22⟩ := Kd.R_slice HO113.out; subst eo22) | ((with_reducible refine gate_callee (f := 23) rfl ?_); refine goesL_ (some 7) rfl rfl Try.func23 (by kernel_rfl) rfl #[.slice Ao22 y111.length co22, .string (⟨#[97, 98, 97, 98]⟩ : ByteArray)] rfl (by (try simp only [List.map_toArray, List.map_cons, List.map_nil]); first | done | rfl | (simp only [List.length_drop, List.length_take]; rfl)) ?_; (with_reducible refine (eval_Find.calls k _ _ y111 (⟨#[97, 98, 97, 98]⟩ : ByteArray) t114 true _ ?side1 ?side2 ?side3 A1.out).mono ?_); (case side1 => first | exact GlobOk.below HG.out (lU HB.out) | (repeat (first | exact HG.out | (with_reducible refine GlobOk.alloc ?_ _) | (with_reducible refine GlobOk.drewN ?_ _) | (with_reducible refine GlobOk.drew ?_)))); (case side2 => repeat (first | exact (Kd.R_reads' HO113.out).2.2 | (with_reducible refine Kd.C_alloc ?_ _) | (with_reducible refine Kd.C_drewN ?_ _) | (with_reducible refine Kd.C_drew ?_))); (case side3 => exact (Kd.R_reads' HO113.out).2.1); rintro e w23 ⟨v116, rfl, ho0, hb⟩; refine ⟨_, rfl, ?_⟩; replace HO113 := am (Kd.R_below (rU HO113.out) hb); have HO117 := am (Kd.R_lower ho0 (below_size (lU HB.out))); replace HB := am (below_step (lU HB.out) hb); (try clear hb); (try clear hb2); (try clear hk); (try clear hi); (try clear ho0)) | ((with_reducible refine gate_dst (N := 11) rfl ?_); (try (refine gate_guard (by rfl) ?_; dsimp only)); refine Kd.R_lit Kd.string _ 9 ?hg (N := 11) ?hd (xs := ([(⟨#[97, 98]⟩ : ByteArray), (⟨#[98, 97, 98]⟩ : ByteArray)] : List ByteArray)) (inner := [.string (⟨#[97, 98]⟩ : ByteArray), .string (⟨#[98, 97, 98]⟩ : ByteArray)]) (ok := fun _ => True) (okp := fun _ => True) ?hr ?hp (fun _ hk => hk) trivial (Below.refl _ _) (Nat.le_refl _) (by simp) ?_; (case hd => rfl); (case hg => rfl); (case hr => first | (go_simp; done) | (go_simp; rfl)); (case hp => exact (Reps.one (show Kd.M Kd.string _ _ _ (⟨#[97, 98]⟩ : ByteArray) [.string (⟨#[97, 98]⟩ : ByteArray)] from rfl) (Reps.one (show Kd.M Kd.string _ _ _ (⟨#[98, 97, 98]⟩ : ByteArray) [.string (⟨#[98, 97, 98]⟩ : ByteArray)] from rfl) (Reps.none _ _)))); intro v119 w24 ho25 hb hg_ hnew_; clear hg_ hnew_; (first | rw [← Ny118.out] at ho25 | (simp only [Int.reduceToNat] at ho25; rw [← Ny118.out] at ho25)); replace HO117 := am (Kd.R_below (rU HO117.out) hb); have HO120 := am (Kd.R_lower (Kd.R_new' ho25 (Kd.R_lt (rU HO113.out))) (below_size (lU HB.out))); replace HO113 := am (Kd.R_elder' (rU HO113.out) (Kd.R_base ho25) hb); replace HB := am (below_step (lU HB.out) hb); clear hb ho25; obtain ⟨Ao26, co26, eo26⟩ := Kd.R_slice HO120.out; subst eo26) | ((with_reducible refine gate_callee (f := 23) rfl ?_); refine goesL_ (some 12) rfl rfl Try.func23 (by kernel_rfl) rfl #[.slice Ao26 y118.length co26, .string (⟨#[97, 98, 97, 98]⟩ : ByteArray)] rfl (by (try simp only [List.map_toArray, List.map_cons, List.map_nil]); first | done | rfl | (simp only [List.length_drop, List.length_take]; rfl)) ?_; (with_reducible refine (eval_Find.calls k _ _ y118 (⟨#[97, 98, 97, 98]⟩ : ByteArray) t121 false _ ?side1 ?side2 ?side3 A2.out).mono ?_); (case side1 => first | exact GlobOk.below HG.out (lU HB.out) | (repeat (first | exact HG.out | (with_reducible refine GlobOk.alloc ?_ _) | (with_reducible refine GlobOk.drewN ?_ _) | (with_reducible refine GlobOk.drew ?_)))); (case side2 => repeat (first | exact (Kd.R_reads' HO120.out).2.2 | (with_reducible refine Kd.C_alloc ?_ _) | (with_reducible refine Kd.C_drewN ?_ _) | (with_reducible refine Kd.C_drew ?_))); (case side3 => exact (Kd.R_reads' HO120.out).2.1); rintro e w27 ⟨v123, rfl, ho0, hb⟩; refine ⟨_, rfl, ?_⟩; replace HO113 := am (Kd.R_below (rU HO113.out) hb); replace HO120 := am (Kd.R_below (rU HO120.out) hb); have HO124 := am (Kd.R_lower (Kd.R_new' ho0 (Kd.R_lt (rU HO117.out))) (below_size (lU HB.out))); replace HO117 := am (Kd.R_elder' (rU HO117.out) (Kd.R_base ho0) hb); replace HB := am (below_step (lU HB.out) hb); (try clear hb); (try clear hb2); (try clear hk); (try clear hi); (try clear ho0); obtain ⟨Ao28, co28, eo28⟩ := Kd.R_slice HO117.out; subst eo28; have p125 : 0 ≤ (1 : Int) := (by omega); have q125 : 1 < (t114.length : Int) := of_decide_eq_true (by first | (with_reducible assumption) | assumption); obtain ⟨ad125, e125, hx125_0⟩ := Kd.at_int (Kd.R_reads' HO117.out).2.2 1 p125 q125; cases e125; (try simp only [show (1 : Int).toNat = 1 from rfl, Nat.reduceMul, Nat.reduceEqDiff, Go.Addr.add, ↓reduceIte] at hx125_0); have qi125 : (1 < t114.length) = True := eq_true (by omega); (try rw [show ((1 : Int)).toNat = 1 from rfl] at hx125_0); replace p125 := eq_true p125; replace q125 := eq_true q125) | ((with_reducible refine gate_dst (N := 32) rfl ?_); (try (refine gate_guard (by rfl) ?_; dsimp only)); refine Kd.R_lit Kd.string _ 9 ?hg (N := 32) ?hd (xs := ([(⟨#[98, 97]⟩ : ByteArray)] : List ByteArray)) (inner := [.string (⟨#[98, 97]⟩ : ByteArray)]) (ok := fun _ => True) (okp := fun _ => True) ?hr ?hp (fun _ hk => hk) trivial (Below.refl _ _) (Nat.le_refl _) (by simp) ?_; (case hd => rfl); (case hg => rfl); (case hr => first | (go_simp; done) | (go_simp; rfl)); (case hp => exact (Reps.one (show Kd.M Kd.string _ _ _ (⟨#[98, 97]⟩ : ByteArray) [.string (⟨#[98, 97]⟩ : ByteArray)] from rfl) (Reps.none _ _))); intro v127 w29 ho30 hb hg_ hnew_; clear hg_ hnew_; (first | rw [← Ny126.out] at ho30 | (simp only [Int.reduceToNat] at ho30; rw [← Ny126.out] at ho30)); replace HO117 := am (Kd.R_below (rU HO117.out) hb); replace HO124 := am (Kd.R_below (rU HO124.out) hb); have HO128 := am (Kd.R_lower (Kd.R_new' (Kd.R_new' ho30 (Kd.R_lt (rU HO113.out))) (Kd.R_lt (rU HO120.out))) (below_size (lU HB.out))); replace HO113 := am (Kd.R_elder' (rU HO113.out) (Kd.R_base ho30) hb); replace HO120 := am (Kd.R_elder' (rU HO120.out) (Kd.R_base ho30) hb); replace HB := am (below_step (lU HB.out) hb); clear hb ho30; obtain ⟨Ao31, co31, eo31⟩ := Kd.R_slice HO128.out; subst eo31) | (go_at_call 25; (with_reducible refine calls_of_args (args' := #[.agg #[.int .i64 1, .slice Ao31 y126.length co31, .slice none 0 0], .string (⟨#[97, 98, 97, 98]⟩ : ByteArray)]) rfl ?_); (refine (eval_Match.calls k 1 _ _ y126 _ _ ([] : List (S40)) (⟨#[97, 98, 97, 98]⟩ : ByteArray) true _ ?side1 ?side2 ?side3 ?side4 ?side5 A17.out).mono ?_); (case side1 => first | exact GlobOk.below HG.out (lU HB.out) | (repeat (first | exact HG.out | (with_reducible refine GlobOk.alloc ?_ _) | (with_reducible refine GlobOk.drewN ?_ _) | (with_reducible refine GlobOk.drew ?_)))); (case side2 => repeat (first | exact (Kd.R_reads' HO128.out).2.2 | (with_reducible refine Kd.C_alloc ?_ _) | (with_reducible refine Kd.C_drewN ?_ _) | (with_reducible refine Kd.C_drew ?_))); (case side3 => exact (Kd.R_reads' HO128.out).2.1); (case side4 => exact Kd.C_nil _ _); (case side5 => exact Nat.le_refl _); rintro e w32 ⟨rfl, hb⟩; replace HO113 := am (Kd.R_below (rU HO113.out) hb); replace HO117 := am (Kd.R_below (rU HO117.out) hb); replace HO120 := am (Kd.R_below (rU HO120.out) hb); replace HO124 := am (Kd.R_below (rU HO124.out) hb); replace HO128 := am (Kd.R_below (rU HO128.out) hb); replace HB := am (below_step (lU HB.out) hb); (try clear hb); (try clear hb2); (try clear hk); (try clear hi)) | ((with_reducible refine gate_dst (N := 37) rfl ?_); (try (refine gate_guard (by rfl) ?_; dsimp only)); refine Kd.R_lit Kd.string _ 9 ?hg (N := 37) ?hd (xs := ([(⟨#[98]⟩ : ByteArray)] : List ByteArray)) (inner := [.string (⟨#[98]⟩ : ByteArray)]) (ok := fun _ => True) (okp := fun _ => True) ?hr ?hp (fun _ hk => hk) trivial (Below.refl _ _) (Nat.le_refl _) (by simp) ?_; (case hd => rfl); (case hg => rfl); (case hr => first | (go_simp; done) | (go_simp; rfl)); (case hp => exact (Reps.one (show Kd.M Kd.string _ _ _ (⟨#[98]⟩ : ByteArray) [.string (⟨#[98]⟩ : ByteArray)] from rfl) (Reps.none _ _))); intro v131 w33 ho34 hb hg_ hnew_; clear hg_ hnew_; (first | rw [← Ny130.out] at ho34 | (simp only [Int.reduceToNat] at ho34; rw [← Ny130.out] at ho34)); replace HO117 := am (Kd.R_below (rU HO117.out) hb); replace HO124 := am (Kd.R_below (rU HO124.out) hb); have HO132 := am (Kd.R_lower (Kd.R_new' (Kd.R_new' (Kd.R_new' ho34 (Kd.R_lt (rU HO113.out))) (Kd.R_lt (rU HO120.out))) (Kd.R_lt (rU HO128.out))) (below_size (lU HB.out))); replace HO113 := am (Kd.R_elder' (rU HO113.out) (Kd.R_base ho34) hb); replace HO120 := am (Kd.R_elder' (rU HO120.out) (Kd.R_base ho34) hb); replace HO128 := am (Kd.R_elder' (rU HO128.out) (Kd.R_base ho34) hb); replace HB := am (below_step (lU HB.out) hb); clear hb ho34; obtain ⟨Ao35, co35, eo35⟩ := Kd.R_slice HO132.out; subst eo35) | (go_at_call 25; (with_reducible refine calls_of_args (args' := #[.agg #[.int .i64 2, .slice Ao35 y130.length co35, .slice none 0 0], .string (⟨#[97, 98, 97, 98]⟩ : ByteArray)]) rfl ?_); (refine (eval_Match.calls k 2 _ _ y130 _ _ ([] : List (S40)) (⟨#[97, 98, 97, 98]⟩ : ByteArray) t133 _ ?side1 ?side2 ?side3 ?side4 ?side5 A19.out).mono ?_); (case side1 => first | exact GlobOk.below HG.out (lU HB.out) | (repeat (first | exact HG.out | (with_reducible refine GlobOk.alloc ?_ _) | (with_reducible refine GlobOk.drewN ?_ _) | (with_reducible refine GlobOk.drew ?_)))); (case side2 => repeat (first | exact (Kd.R_reads' HO132.out).2.2 | (with_reducible refine Kd.C_alloc ?_ _) | (with_reducible refine Kd.C_drewN ?_ _) | (with_reducible refine Kd.C_drew ?_))); (case side3 => exact (Kd.R_reads' HO132.out).2.1); (case side4 => exact Kd.C_nil _ _); (case side5 => exact Nat.le_refl _); rintro e w36 ⟨rfl, hb⟩; replace HO113 := am (Kd.R_below (rU HO113.out) hb); replace HO117 := am (Kd.R_below (rU HO117.out) hb); replace HO120 := am (Kd.R_below (rU HO120.out) hb); replace HO124 := am (Kd.R_below (rU HO124.out) hb); replace HO128 := am (Kd.R_below (rU HO128.out) hb); replace HO132 := am (Kd.R_below (rU HO132.out) hb); replace HB := am (below_step (lU HB.out) hb); (try clear hb); (try clear hb2); (try clear hk); (try clear hi)))
       go_ret
       exact ⟨by first | rfl | (simp [errW_none, errW_some] <;> rfl) | (simp [*, errW_none, errW_some] <;> rfl), by repeat (first | (with_reducible first | exact HB.out | apply below_alloc | apply pw_below_drewN | apply below_drew1) | exact HB.out)⟩
      ·replace c18 := Bool.eq_false_iff.mpr c18
       subst c18
       have H1 : (some false) = some r := by rw [if_neg (show ¬ (false = true) by decide)] at H; exact H
       clear H
       have H := H1
       clear H1
       obtain rfl := Option.some.inj H
       go_enter Try.func21, Try.ntmps21
       go_wp2_with (first | ((with_reducible refine gate_dst (N := 6) rfl ?_); (try (refine gate_guard (by rfl) ?_; dsimp only)); refine Kd.R_lit Kd.string _ 9 ?hg (N := 6) ?hd (xs := ([(⟨#[97, 98]⟩ : ByteArray), (⟨#[98]⟩ : ByteArray)] : List ByteArray)) (inner := [.string (⟨#[97, 98]⟩ : ByteArray), .string (⟨#[98]⟩ : ByteArray)]) (ok := fun _ => True) (okp := fun _ => True) ?hr ?hp (fun _ hk => hk) trivial (Below.refl _ _) (Nat.le_refl _) (by simp) ?_; (case hd => rfl); (case hg => rfl); (case hr => first | (go_simp; done) | (go_simp; rfl)); (case hp => exact (Reps.one (show Kd.M Kd.string _ _ _ (⟨#[97, 98]⟩ : ByteArray) [.string (⟨#[97, 98]⟩ : ByteArray)] from rfl) (Reps.one (show Kd.M Kd.string _ _ _ (⟨#[98]⟩ : ByteArray) [.string (⟨#[98]⟩ : ByteArray)] from rfl) (Reps.none _ _)))); intro v112 w37 ho38 hb hg_ hnew_; clear hg_ hnew_; (first | rw [← Ny111.out] at ho38 | (simp only [Int.reduceToNat] at ho38; rw [← Ny111.out] at ho38)); have HO113 := am (Kd.R_lower ho38 (below_size (lU HB.out))); replace HB := am (below_step (lU HB.out) hb); clear hb ho38; obtain ⟨Ao39, co39, eo39⟩ := Kd.R_slice HO113.out; subst eo39) | ((with_reducible refine gate_callee (f := 23) rfl ?_); refine goesL_ (some 7) rfl rfl Try.func23 (by kernel_rfl) rfl #[.slice Ao39 y111.length co39, .string (⟨#[97, 98, 97, 98]⟩ : ByteArray)] rfl (by (try simp only [List.map_toArray, List.map_cons, List.map_nil]); first | done | rfl | (simp only [List.length_drop, List.length_take]; rfl)) ?_; (with_reducible refine (eval_Find.calls k _ _ y111 (⟨#[97, 98, 97, 98]⟩ : ByteArray) t114 true _ ?side1 ?side2 ?side3 A1.out).mono ?_); (case side1 => first | exact GlobOk.below HG.out (lU HB.out) | (repeat (first | exact HG.out | (with_reducible refine GlobOk.alloc ?_ _) | (with_reducible refine GlobOk.drewN ?_ _) | (with_reducible refine GlobOk.drew ?_)))); (case side2 => repeat (first | exact (Kd.R_reads' HO113.out).2.2 | (with_reducible refine Kd.C_alloc ?_ _) | (with_reducible refine Kd.C_drewN ?_ _) | (with_reducible refine Kd.C_drew ?_))); (case side3 => exact (Kd.R_reads' HO113.out).2.1); rintro e w40 ⟨v116, rfl, ho0, hb⟩; refine ⟨_, rfl, ?_⟩; replace HO113 := am (Kd.R_below (rU HO113.out) hb); have HO117 := am (Kd.R_lower ho0 (below_size (lU HB.out))); replace HB := am (below_step (lU HB.out) hb); (try clear hb); (try clear hb2); (try clear hk); (try clear hi); (try clear ho0)) | ((with_reducible refine gate_dst (N := 11) rfl ?_); (try (refine gate_guard (by rfl) ?_; dsimp only)); refine Kd.R_lit Kd.string _ 9 ?hg (N := 11) ?hd (xs := ([(⟨#[97, 98]⟩ : ByteArray), (⟨#[98, 97, 98]⟩ : ByteArray)] : List ByteArray)) (inner := [.string (⟨#[97, 98]⟩ : ByteArray), .string (⟨#[98, 97, 98]⟩ : ByteArray)]) (ok := fun _ => True) (okp := fun _ => True) ?hr ?hp (fun _ hk => hk) trivial (Below.refl _ _) (Nat.le_refl _) (by simp) ?_; (case hd => rfl); (case hg => rfl); (case hr => first | (go_simp; done) | (go_simp; rfl)); (case hp => exact (Reps.one (show Kd.M Kd.string _ _ _ (⟨#[97, 98]⟩ : ByteArray) [.string (⟨#[97, 98]⟩ : ByteArray)] from rfl) (Reps.one (show Kd.M Kd.string _ _ _ (⟨#[98, 97, 98]⟩ : ByteArray) [.string (⟨#[98, 97, 98]⟩ : ByteArray)] from rfl) (Reps.none _ _)))); intro v119 w41 ho42 hb hg_ hnew_; clear hg_ hnew_; (first | rw [← Ny118.out] at ho42 | (simp only [Int.reduceToNat] at ho42; rw [← Ny118.out] at ho42)); replace HO117 := am (Kd.R_below (rU HO117.out) hb); have HO120 := am (Kd.R_lower (Kd.R_new' ho42 (Kd.R_lt (rU HO113.out))) (below_size (lU HB.out))); replace HO113 := am (Kd.R_elder' (rU HO113.out) (Kd.R_base ho42) hb); replace HB := am (below_step (lU HB.out) hb); clear hb ho42; obtain ⟨Ao43, co43, eo43⟩ := Kd.R_slice HO120.out; subst eo43) | ((with_reducible refine gate_callee (f := 23) rfl ?_); refine goesL_ (some 12) rfl rfl Try.func23 (by kernel_rfl) rfl #[.slice Ao43 y118.length co43, .string (⟨#[97, 98, 97, 98]⟩ : ByteArray)] rfl (by (try simp only [List.map_toArray, List.map_cons, List.map_nil]); first | done | rfl | (simp only [List.length_drop, List.length_take]; rfl)) ?_; (with_reducible refine (eval_Find.calls k _ _ y118 (⟨#[97, 98, 97, 98]⟩ : ByteArray) t121 false _ ?side1 ?side2 ?side3 A2.out).mono ?_); (case side1 => first | exact GlobOk.below HG.out (lU HB.out) | (repeat (first | exact HG.out | (with_reducible refine GlobOk.alloc ?_ _) | (with_reducible refine GlobOk.drewN ?_ _) | (with_reducible refine GlobOk.drew ?_)))); (case side2 => repeat (first | exact (Kd.R_reads' HO120.out).2.2 | (with_reducible refine Kd.C_alloc ?_ _) | (with_reducible refine Kd.C_drewN ?_ _) | (with_reducible refine Kd.C_drew ?_))); (case side3 => exact (Kd.R_reads' HO120.out).2.1); rintro e w44 ⟨v123, rfl, ho0, hb⟩; refine ⟨_, rfl, ?_⟩; replace HO113 := am (Kd.R_below (rU HO113.out) hb); replace HO120 := am (Kd.R_below (rU HO120.out) hb); have HO124 := am (Kd.R_lower (Kd.R_new' ho0 (Kd.R_lt (rU HO117.out))) (below_size (lU HB.out))); replace HO117 := am (Kd.R_elder' (rU HO117.out) (Kd.R_base ho0) hb); replace HB := am (below_step (lU HB.out) hb); (try clear hb); (try clear hb2); (try clear hk); (try clear hi); (try clear ho0); obtain ⟨Ao45, co45, eo45⟩ := Kd.R_slice HO117.out; subst eo45; have p125 : 0 ≤ (1 : Int) := (by omega); have q125 : 1 < (t114.length : Int) := of_decide_eq_true (by first | (with_reducible assumption) | assumption); obtain ⟨ad125, e125, hx125_0⟩ := Kd.at_int (Kd.R_reads' HO117.out).2.2 1 p125 q125; cases e125; (try simp only [show (1 : Int).toNat = 1 from rfl, Nat.reduceMul, Nat.reduceEqDiff, Go.Addr.add, ↓reduceIte] at hx125_0); have qi125 : (1 < t114.length) = True := eq_true (by omega); (try rw [show ((1 : Int)).toNat = 1 from rfl] at hx125_0); replace p125 := eq_true p125; replace q125 := eq_true q125) | ((with_reducible refine gate_dst (N := 32) rfl ?_); (try (refine gate_guard (by rfl) ?_; dsimp only)); refine Kd.R_lit Kd.string _ 9 ?hg (N := 32) ?hd (xs := ([(⟨#[98, 97]⟩ : ByteArray)] : List ByteArray)) (inner := [.string (⟨#[98, 97]⟩ : ByteArray)]) (ok := fun _ => True) (okp := fun _ => True) ?hr ?hp (fun _ hk => hk) trivial (Below.refl _ _) (Nat.le_refl _) (by simp) ?_; (case hd => rfl); (case hg => rfl); (case hr => first | (go_simp; done) | (go_simp; rfl)); (case hp => exact (Reps.one (show Kd.M Kd.string _ _ _ (⟨#[98, 97]⟩ : ByteArray) [.string (⟨#[98, 97]⟩ : ByteArray)] from rfl) (Reps.none _ _))); intro v127 w46 ho47 hb hg_ hnew_; clear hg_ hnew_; (first | rw [← Ny126.out] at ho47 | (simp only [Int.reduceToNat] at ho47; rw [← Ny126.out] at ho47)); replace HO117 := am (Kd.R_below (rU HO117.out) hb); replace HO124 := am (Kd.R_below (rU HO124.out) hb); have HO128 := am (Kd.R_lower (Kd.R_new' (Kd.R_new' ho47 (Kd.R_lt (rU HO113.out))) (Kd.R_lt (rU HO120.out))) (below_size (lU HB.out))); replace HO113 := am (Kd.R_elder' (rU HO113.out) (Kd.R_base ho47) hb); replace HO120 := am (Kd.R_elder' (rU HO120.out) (Kd.R_base ho47) hb); replace HB := am (below_step (lU HB.out) hb); clear hb ho47; obtain ⟨Ao48, co48, eo48⟩ := Kd.R_slice HO128.out; subst eo48) | (go_at_call 25; (with_reducible refine calls_of_args (args' := #[.agg #[.int .i64 1, .slice Ao48 y126.length co48, .slice none 0 0], .string (⟨#[97, 98, 97, 98]⟩ : ByteArray)]) rfl ?_); (refine (eval_Match.calls k 1 _ _ y126 _ _ ([] : List (S40)) (⟨#[97, 98, 97, 98]⟩ : ByteArray) false _ ?side1 ?side2 ?side3 ?side4 ?side5 A17.out).mono ?_); (case side1 => first | exact GlobOk.below HG.out (lU HB.out) | (repeat (first | exact HG.out | (with_reducible refine GlobOk.alloc ?_ _) | (with_reducible refine GlobOk.drewN ?_ _) | (with_reducible refine GlobOk.drew ?_)))); (case side2 => repeat (first | exact (Kd.R_reads' HO128.out).2.2 | (with_reducible refine Kd.C_alloc ?_ _) | (with_reducible refine Kd.C_drewN ?_ _) | (with_reducible refine Kd.C_drew ?_))); (case side3 => exact (Kd.R_reads' HO128.out).2.1); (case side4 => exact Kd.C_nil _ _); (case side5 => exact Nat.le_refl _); rintro e w49 ⟨rfl, hb⟩; replace HO113 := am (Kd.R_below (rU HO113.out) hb); replace HO117 := am (Kd.R_below (rU HO117.out) hb); replace HO120 := am (Kd.R_below (rU HO120.out) hb); replace HO124 := am (Kd.R_below (rU HO124.out) hb); replace HO128 := am (Kd.R_below (rU HO128.out) hb); replace HB := am (below_step (lU HB.out) hb); (try clear hb); (try clear hb2); (try clear hk); (try clear hi)))
       go_ret
       exact ⟨by first | rfl | (simp [errW_none, errW_some] <;> rfl) | (simp [*, errW_none, errW_some] <;> rfl), by repeat (first | (with_reducible first | exact HB.out | apply below_alloc | apply pw_below_drewN | apply below_drew1) | exact HB.out)⟩
    ·rw [if_neg c6] at H
     have c6b0 : ((rd t114 1) == 3) = false := beq_eq_false_iff_ne.mpr c6
     have c6b1 : ((rd t114 1) != 3) = true := bne_iff_ne.mpr c6
     obtain rfl := Option.some.inj H
     go_enter Try.func21, Try.ntmps21
     go_wp2_with (first | ((with_reducible refine gate_dst (N := 6) rfl ?_); (try (refine gate_guard (by rfl) ?_; dsimp only)); refine Kd.R_lit Kd.string _ 9 ?hg (N := 6) ?hd (xs := ([(⟨#[97, 98]⟩ : ByteArray), (⟨#[98]⟩ : ByteArray)] : List ByteArray)) (inner := [.string (⟨#[97, 98]⟩ : ByteArray), .string (⟨#[98]⟩ : ByteArray)]) (ok := fun _ => True) (okp := fun _ => True) ?hr ?hp (fun _ hk => hk) trivial (Below.refl _ _) (Nat.le_refl _) (by simp) ?_; (case hd => rfl); (case hg => rfl); (case hr => first | (go_simp; done) | (go_simp; rfl)); (case hp => exact (Reps.one (show Kd.M Kd.string _ _ _ (⟨#[97, 98]⟩ : ByteArray) [.string (⟨#[97, 98]⟩ : ByteArray)] from rfl) (Reps.one (show Kd.M Kd.string _ _ _ (⟨#[98]⟩ : ByteArray) [.string (⟨#[98]⟩ : ByteArray)] from rfl) (Reps.none _ _)))); intro v112 w50 ho51 hb hg_ hnew_; clear hg_ hnew_; (first | rw [← Ny111.out] at ho51 | (simp only [Int.reduceToNat] at ho51; rw [← Ny111.out] at ho51)); have HO113 := am (Kd.R_lower ho51 (below_size (lU HB.out))); replace HB := am (below_step (lU HB.out) hb); clear hb ho51; obtain ⟨Ao52, co52, eo52⟩ := Kd.R_slice HO113.out; subst eo52) | ((with_reducible refine gate_callee (f := 23) rfl ?_); refine goesL_ (some 7) rfl rfl Try.func23 (by kernel_rfl) rfl #[.slice Ao52 y111.length co52, .string (⟨#[97, 98, 97, 98]⟩ : ByteArray)] rfl (by (try simp only [List.map_toArray, List.map_cons, List.map_nil]); first | done | rfl | (simp only [List.length_drop, List.length_take]; rfl)) ?_; (with_reducible refine (eval_Find.calls k _ _ y111 (⟨#[97, 98, 97, 98]⟩ : ByteArray) t114 true _ ?side1 ?side2 ?side3 A1.out).mono ?_); (case side1 => first | exact GlobOk.below HG.out (lU HB.out) | (repeat (first | exact HG.out | (with_reducible refine GlobOk.alloc ?_ _) | (with_reducible refine GlobOk.drewN ?_ _) | (with_reducible refine GlobOk.drew ?_)))); (case side2 => repeat (first | exact (Kd.R_reads' HO113.out).2.2 | (with_reducible refine Kd.C_alloc ?_ _) | (with_reducible refine Kd.C_drewN ?_ _) | (with_reducible refine Kd.C_drew ?_))); (case side3 => exact (Kd.R_reads' HO113.out).2.1); rintro e w53 ⟨v116, rfl, ho0, hb⟩; refine ⟨_, rfl, ?_⟩; replace HO113 := am (Kd.R_below (rU HO113.out) hb); have HO117 := am (Kd.R_lower ho0 (below_size (lU HB.out))); replace HB := am (below_step (lU HB.out) hb); (try clear hb); (try clear hb2); (try clear hk); (try clear hi); (try clear ho0)) | ((with_reducible refine gate_dst (N := 11) rfl ?_); (try (refine gate_guard (by rfl) ?_; dsimp only)); refine Kd.R_lit Kd.string _ 9 ?hg (N := 11) ?hd (xs := ([(⟨#[97, 98]⟩ : ByteArray), (⟨#[98, 97, 98]⟩ : ByteArray)] : List ByteArray)) (inner := [.string (⟨#[97, 98]⟩ : ByteArray), .string (⟨#[98, 97, 98]⟩ : ByteArray)]) (ok := fun _ => True) (okp := fun _ => True) ?hr ?hp (fun _ hk => hk) trivial (Below.refl _ _) (Nat.le_refl _) (by simp) ?_; (case hd => rfl); (case hg => rfl); (case hr => first | (go_simp; done) | (go_simp; rfl)); (case hp => exact (Reps.one (show Kd.M Kd.string _ _ _ (⟨#[97, 98]⟩ : ByteArray) [.string (⟨#[97, 98]⟩ : ByteArray)] from rfl) (Reps.one (show Kd.M Kd.string _ _ _ (⟨#[98, 97, 98]⟩ : ByteArray) [.string (⟨#[98, 97, 98]⟩ : ByteArray)] from rfl) (Reps.none _ _)))); intro v119 w54 ho55 hb hg_ hnew_; clear hg_ hnew_; (first | rw [← Ny118.out] at ho55 | (simp only [Int.reduceToNat] at ho55; rw [← Ny118.out] at ho55)); replace HO117 := am (Kd.R_below (rU HO117.out) hb); have HO120 := am (Kd.R_lower (Kd.R_new' ho55 (Kd.R_lt (rU HO113.out))) (below_size (lU HB.out))); replace HO113 := am (Kd.R_elder' (rU HO113.out) (Kd.R_base ho55) hb); replace HB := am (below_step (lU HB.out) hb); clear hb ho55; obtain ⟨Ao56, co56, eo56⟩ := Kd.R_slice HO120.out; subst eo56) | ((with_reducible refine gate_callee (f := 23) rfl ?_); refine goesL_ (some 12) rfl rfl Try.func23 (by kernel_rfl) rfl #[.slice Ao56 y118.length co56, .string (⟨#[97, 98, 97, 98]⟩ : ByteArray)] rfl (by (try simp only [List.map_toArray, List.map_cons, List.map_nil]); first | done | rfl | (simp only [List.length_drop, List.length_take]; rfl)) ?_; (with_reducible refine (eval_Find.calls k _ _ y118 (⟨#[97, 98, 97, 98]⟩ : ByteArray) t121 t122 _ ?side1 ?side2 ?side3 A2.out).mono ?_); (case side1 => first | exact GlobOk.below HG.out (lU HB.out) | (repeat (first | exact HG.out | (with_reducible refine GlobOk.alloc ?_ _) | (with_reducible refine GlobOk.drewN ?_ _) | (with_reducible refine GlobOk.drew ?_)))); (case side2 => repeat (first | exact (Kd.R_reads' HO120.out).2.2 | (with_reducible refine Kd.C_alloc ?_ _) | (with_reducible refine Kd.C_drewN ?_ _) | (with_reducible refine Kd.C_drew ?_))); (case side3 => exact (Kd.R_reads' HO120.out).2.1); rintro e w57 ⟨v123, rfl, ho0, hb⟩; refine ⟨_, rfl, ?_⟩; replace HO113 := am (Kd.R_below (rU HO113.out) hb); replace HO120 := am (Kd.R_below (rU HO120.out) hb); have HO124 := am (Kd.R_lower (Kd.R_new' ho0 (Kd.R_lt (rU HO117.out))) (below_size (lU HB.out))); replace HO117 := am (Kd.R_elder' (rU HO117.out) (Kd.R_base ho0) hb); replace HB := am (below_step (lU HB.out) hb); (try clear hb); (try clear hb2); (try clear hk); (try clear hi); (try clear ho0); obtain ⟨Ao58, co58, eo58⟩ := Kd.R_slice HO117.out; subst eo58; have p125 : 0 ≤ (1 : Int) := (by omega); have q125 : 1 < (t114.length : Int) := of_decide_eq_true (by first | (with_reducible assumption) | assumption); obtain ⟨ad125, e125, hx125_0⟩ := Kd.at_int (Kd.R_reads' HO117.out).2.2 1 p125 q125; cases e125; (try simp only [show (1 : Int).toNat = 1 from rfl, Nat.reduceMul, Nat.reduceEqDiff, Go.Addr.add, ↓reduceIte] at hx125_0); have qi125 : (1 < t114.length) = True := eq_true (by omega); (try rw [show ((1 : Int)).toNat = 1 from rfl] at hx125_0); replace p125 := eq_true p125; replace q125 := eq_true q125))
     go_ret
     exact ⟨by first | rfl | (simp [errW_none, errW_some] <;> rfl) | (simp [*, errW_none, errW_some] <;> rfl), by repeat (first | (with_reducible first | exact HB.out | apply below_alloc | apply pw_below_drewN | apply below_drew1) | exact HB.out)⟩
   ·rw [if_neg c5] at H
    exact absurd H (by simp)
  ·rw [if_neg c4] at H
   have c4b0 : ((t114.length : Int) == 2) = false := beq_eq_false_iff_ne.mpr c4
   have c4b1 : ((t114.length : Int) != 2) = true := bne_iff_ne.mpr c4
   obtain rfl := Option.some.inj H
   go_enter Try.func21, Try.ntmps21
   go_wp2_with (first | ((with_reducible refine gate_dst (N := 6) rfl ?_); (try (refine gate_guard (by rfl) ?_; dsimp only)); refine Kd.R_lit Kd.string _ 9 ?hg (N := 6) ?hd (xs := ([(⟨#[97, 98]⟩ : ByteArray), (⟨#[98]⟩ : ByteArray)] : List ByteArray)) (inner := [.string (⟨#[97, 98]⟩ : ByteArray), .string (⟨#[98]⟩ : ByteArray)]) (ok := fun _ => True) (okp := fun _ => True) ?hr ?hp (fun _ hk => hk) trivial (Below.refl _ _) (Nat.le_refl _) (by simp) ?_; (case hd => rfl); (case hg => rfl); (case hr => first | (go_simp; done) | (go_simp; rfl)); (case hp => exact (Reps.one (show Kd.M Kd.string _ _ _ (⟨#[97, 98]⟩ : ByteArray) [.string (⟨#[97, 98]⟩ : ByteArray)] from rfl) (Reps.one (show Kd.M Kd.string _ _ _ (⟨#[98]⟩ : ByteArray) [.string (⟨#[98]⟩ : ByteArray)] from rfl) (Reps.none _ _)))); intro v112 w59 ho60 hb hg_ hnew_; clear hg_ hnew_; (first | rw [← Ny111.out] at ho60 | (simp only [Int.reduceToNat] at ho60; rw [← Ny111.out] at ho60)); have HO113 := am (Kd.R_lower ho60 (below_size (lU HB.out))); replace HB := am (below_step (lU HB.out) hb); clear hb ho60; obtain ⟨Ao61, co61, eo61⟩ := Kd.R_slice HO113.out; subst eo61) | ((with_reducible refine gate_callee (f := 23) rfl ?_); refine goesL_ (some 7) rfl rfl Try.func23 (by kernel_rfl) rfl #[.slice Ao61 y111.length co61, .string (⟨#[97, 98, 97, 98]⟩ : ByteArray)] rfl (by (try simp only [List.map_toArray, List.map_cons, List.map_nil]); first | done | rfl | (simp only [List.length_drop, List.length_take]; rfl)) ?_; (with_reducible refine (eval_Find.calls k _ _ y111 (⟨#[97, 98, 97, 98]⟩ : ByteArray) t114 true _ ?side1 ?side2 ?side3 A1.out).mono ?_); (case side1 => first | exact GlobOk.below HG.out (lU HB.out) | (repeat (first | exact HG.out | (with_reducible refine GlobOk.alloc ?_ _) | (with_reducible refine GlobOk.drewN ?_ _) | (with_reducible refine GlobOk.drew ?_)))); (case side2 => repeat (first | exact (Kd.R_reads' HO113.out).2.2 | (with_reducible refine Kd.C_alloc ?_ _) | (with_reducible refine Kd.C_drewN ?_ _) | (with_reducible refine Kd.C_drew ?_))); (case side3 => exact (Kd.R_reads' HO113.out).2.1); rintro e w62 ⟨v116, rfl, ho0, hb⟩; refine ⟨_, rfl, ?_⟩; replace HO113 := am (Kd.R_below (rU HO113.out) hb); have HO117 := am (Kd.R_lower ho0 (below_size (lU HB.out))); replace HB := am (below_step (lU HB.out) hb); (try clear hb); (try clear hb2); (try clear hk); (try clear hi); (try clear ho0)) | ((with_reducible refine gate_dst (N := 11) rfl ?_); (try (refine gate_guard (by rfl) ?_; dsimp only)); refine Kd.R_lit Kd.string _ 9 ?hg (N := 11) ?hd (xs := ([(⟨#[97, 98]⟩ : ByteArray), (⟨#[98, 97, 98]⟩ : ByteArray)] : List ByteArray)) (inner := [.string (⟨#[97, 98]⟩ : ByteArray), .string (⟨#[98, 97, 98]⟩ : ByteArray)]) (ok := fun _ => True) (okp := fun _ => True) ?hr ?hp (fun _ hk => hk) trivial (Below.refl _ _) (Nat.le_refl _) (by simp) ?_; (case hd => rfl); (case hg => rfl); (case hr => first | (go_simp; done) | (go_simp; rfl)); (case hp => exact (Reps.one (show Kd.M Kd.string _ _ _ (⟨#[97, 98]⟩ : ByteArray) [.string (⟨#[97, 98]⟩ : ByteArray)] from rfl) (Reps.one (show Kd.M Kd.string _ _ _ (⟨#[98, 97, 98]⟩ : ByteArray) [.string (⟨#[98, 97, 98]⟩ : ByteArray)] from rfl) (Reps.none _ _)))); intro v119 w63 ho64 hb hg_ hnew_; clear hg_ hnew_; (first | rw [← Ny118.out] at ho64 | (simp only [Int.reduceToNat] at ho64; rw [← Ny118.out] at ho64)); replace HO117 := am (Kd.R_below (rU HO117.out) hb); have HO120 := am (Kd.R_lower (Kd.R_new' ho64 (Kd.R_lt (rU HO113.out))) (below_size (lU HB.out))); replace HO113 := am (Kd.R_elder' (rU HO113.out) (Kd.R_base ho64) hb); replace HB := am (below_step (lU HB.out) hb); clear hb ho64; obtain ⟨Ao65, co65, eo65⟩ := Kd.R_slice HO120.out; subst eo65) | ((with_reducible refine gate_callee (f := 23) rfl ?_); refine goesL_ (some 12) rfl rfl Try.func23 (by kernel_rfl) rfl #[.slice Ao65 y118.length co65, .string (⟨#[97, 98, 97, 98]⟩ : ByteArray)] rfl (by (try simp only [List.map_toArray, List.map_cons, List.map_nil]); first | done | rfl | (simp only [List.length_drop, List.length_take]; rfl)) ?_; (with_reducible refine (eval_Find.calls k _ _ y118 (⟨#[97, 98, 97, 98]⟩ : ByteArray) t121 t122 _ ?side1 ?side2 ?side3 A2.out).mono ?_); (case side1 => first | exact GlobOk.below HG.out (lU HB.out) | (repeat (first | exact HG.out | (with_reducible refine GlobOk.alloc ?_ _) | (with_reducible refine GlobOk.drewN ?_ _) | (with_reducible refine GlobOk.drew ?_)))); (case side2 => repeat (first | exact (Kd.R_reads' HO120.out).2.2 | (with_reducible refine Kd.C_alloc ?_ _) | (with_reducible refine Kd.C_drewN ?_ _) | (with_reducible refine Kd.C_drew ?_))); (case side3 => exact (Kd.R_reads' HO120.out).2.1); rintro e w66 ⟨v123, rfl, ho0, hb⟩; refine ⟨_, rfl, ?_⟩; replace HO113 := am (Kd.R_below (rU HO113.out) hb); replace HO120 := am (Kd.R_below (rU HO120.out) hb); have HO124 := am (Kd.R_lower (Kd.R_new' ho0 (Kd.R_lt (rU HO117.out))) (below_size (lU HB.out))); replace HO117 := am (Kd.R_elder' (rU HO117.out) (Kd.R_base ho0) hb); replace HB := am (below_step (lU HB.out) hb); (try clear hb); (try clear hb2); (try clear hk); (try clear hi); (try clear ho0); obtain ⟨Ao67, co67, eo67⟩ := Kd.R_slice HO117.out; subst eo67))
   go_ret
   exact ⟨by first | rfl | (simp [errW_none, errW_some] <;> rfl) | (simp [*, errW_none, errW_some] <;> rfl), by repeat (first | (with_reducible first | exact HB.out | apply below_alloc | apply pw_below_drewN | apply below_drew1) | exact HB.out)⟩
 ·replace c3 := Bool.eq_false_iff.mpr c3
  subst c3
  have H1 : (some false) = some r := by rw [if_neg (show ¬ (false = true) by decide)] at H; exact H
  clear H
  have H := H1
  clear H1
  obtain rfl := Option.some.inj H
  go_enter Try.func21, Try.ntmps21
  go_wp2_with (first | ((with_reducible refine gate_dst (N := 6) rfl ?_); (try (refine gate_guard (by rfl) ?_; dsimp only)); refine Kd.R_lit Kd.string _ 9 ?hg (N := 6) ?hd (xs := ([(⟨#[97, 98]⟩ : ByteArray), (⟨#[98]⟩ : ByteArray)] : List ByteArray)) (inner := [.string (⟨#[97, 98]⟩ : ByteArray), .string (⟨#[98]⟩ : ByteArray)]) (ok := fun _ => True) (okp := fun _ => True) ?hr ?hp (fun _ hk => hk) trivial (Below.refl _ _) (Nat.le_refl _) (by simp) ?_; (case hd => rfl); (case hg => rfl); (case hr => first | (go_simp; done) | (go_simp; rfl)); (case hp => exact (Reps.one (show Kd.M Kd.string _ _ _ (⟨#[97, 98]⟩ : ByteArray) [.string (⟨#[97, 98]⟩ : ByteArray)] from rfl) (Reps.one (show Kd.M Kd.string _ _ _ (⟨#[98]⟩ : ByteArray) [.string (⟨#[98]⟩ : ByteArray)] from rfl) (Reps.none _ _)))); intro v112 w68 ho69 hb hg_ hnew_; clear hg_ hnew_; (first | rw [← Ny111.out] at ho69 | (simp only [Int.reduceToNat] at ho69; rw [← Ny111.out] at ho69)); have HO113 := am (Kd.R_lower ho69 (below_size (lU HB.out))); replace HB := am (below_step (lU HB.out) hb); clear hb ho69; obtain ⟨Ao70, co70, eo70⟩ := Kd.R_slice HO113.out; subst eo70) | ((with_reducible refine gate_callee (f := 23) rfl ?_); refine goesL_ (some 7) rfl rfl Try.func23 (by kernel_rfl) rfl #[.slice Ao70 y111.length co70, .string (⟨#[97, 98, 97, 98]⟩ : ByteArray)] rfl (by (try simp only [List.map_toArray, List.map_cons, List.map_nil]); first | done | rfl | (simp only [List.length_drop, List.length_take]; rfl)) ?_; (with_reducible refine (eval_Find.calls k _ _ y111 (⟨#[97, 98, 97, 98]⟩ : ByteArray) t114 false _ ?side1 ?side2 ?side3 A1.out).mono ?_); (case side1 => first | exact GlobOk.below HG.out (lU HB.out) | (repeat (first | exact HG.out | (with_reducible refine GlobOk.alloc ?_ _) | (with_reducible refine GlobOk.drewN ?_ _) | (with_reducible refine GlobOk.drew ?_)))); (case side2 => repeat (first | exact (Kd.R_reads' HO113.out).2.2 | (with_reducible refine Kd.C_alloc ?_ _) | (with_reducible refine Kd.C_drewN ?_ _) | (with_reducible refine Kd.C_drew ?_))); (case side3 => exact (Kd.R_reads' HO113.out).2.1); rintro e w71 ⟨v116, rfl, ho0, hb⟩; refine ⟨_, rfl, ?_⟩; replace HO113 := am (Kd.R_below (rU HO113.out) hb); have HO117 := am (Kd.R_lower ho0 (below_size (lU HB.out))); replace HB := am (below_step (lU HB.out) hb); (try clear hb); (try clear hb2); (try clear hk); (try clear hi); (try clear ho0)) | ((with_reducible refine gate_dst (N := 11) rfl ?_); (try (refine gate_guard (by rfl) ?_; dsimp only)); refine Kd.R_lit Kd.string _ 9 ?hg (N := 11) ?hd (xs := ([(⟨#[97, 98]⟩ : ByteArray), (⟨#[98, 97, 98]⟩ : ByteArray)] : List ByteArray)) (inner := [.string (⟨#[97, 98]⟩ : ByteArray), .string (⟨#[98, 97, 98]⟩ : ByteArray)]) (ok := fun _ => True) (okp := fun _ => True) ?hr ?hp (fun _ hk => hk) trivial (Below.refl _ _) (Nat.le_refl _) (by simp) ?_; (case hd => rfl); (case hg => rfl); (case hr => first | (go_simp; done) | (go_simp; rfl)); (case hp => exact (Reps.one (show Kd.M Kd.string _ _ _ (⟨#[97, 98]⟩ : ByteArray) [.string (⟨#[97, 98]⟩ : ByteArray)] from rfl) (Reps.one (show Kd.M Kd.string _ _ _ (⟨#[98, 97, 98]⟩ : ByteArray) [.string (⟨#[98, 97, 98]⟩ : ByteArray)] from rfl) (Reps.none _ _)))); intro v119 w72 ho73 hb hg_ hnew_; clear hg_ hnew_; (first | rw [← Ny118.out] at ho73 | (simp only [Int.reduceToNat] at ho73; rw [← Ny118.out] at ho73)); replace HO117 := am (Kd.R_below (rU HO117.out) hb); have HO120 := am (Kd.R_lower (Kd.R_new' ho73 (Kd.R_lt (rU HO113.out))) (below_size (lU HB.out))); replace HO113 := am (Kd.R_elder' (rU HO113.out) (Kd.R_base ho73) hb); replace HB := am (below_step (lU HB.out) hb); clear hb ho73; obtain ⟨Ao74, co74, eo74⟩ := Kd.R_slice HO120.out; subst eo74) | ((with_reducible refine gate_callee (f := 23) rfl ?_); refine goesL_ (some 12) rfl rfl Try.func23 (by kernel_rfl) rfl #[.slice Ao74 y118.length co74, .string (⟨#[97, 98, 97, 98]⟩ : ByteArray)] rfl (by (try simp only [List.map_toArray, List.map_cons, List.map_nil]); first | done | rfl | (simp only [List.length_drop, List.length_take]; rfl)) ?_; (with_reducible refine (eval_Find.calls k _ _ y118 (⟨#[97, 98, 97, 98]⟩ : ByteArray) t121 t122 _ ?side1 ?side2 ?side3 A2.out).mono ?_); (case side1 => first | exact GlobOk.below HG.out (lU HB.out) | (repeat (first | exact HG.out | (with_reducible refine GlobOk.alloc ?_ _) | (with_reducible refine GlobOk.drewN ?_ _) | (with_reducible refine GlobOk.drew ?_)))); (case side2 => repeat (first | exact (Kd.R_reads' HO120.out).2.2 | (with_reducible refine Kd.C_alloc ?_ _) | (with_reducible refine Kd.C_drewN ?_ _) | (with_reducible refine Kd.C_drew ?_))); (case side3 => exact (Kd.R_reads' HO120.out).2.1); rintro e w75 ⟨v123, rfl, ho0, hb⟩; refine ⟨_, rfl, ?_⟩; replace HO113 := am (Kd.R_below (rU HO113.out) hb); replace HO120 := am (Kd.R_below (rU HO120.out) hb); have HO124 := am (Kd.R_lower (Kd.R_new' ho0 (Kd.R_lt (rU HO117.out))) (below_size (lU HB.out))); replace HO117 := am (Kd.R_elder' (rU HO117.out) (Kd.R_base ho0) hb); replace HB := am (below_step (lU HB.out) hb); (try clear hb); (try clear hb2); (try clear hk); (try clear hi); (try clear ho0)))
  go_ret
  exact ⟨by first | rfl | (simp [errW_none, errW_some] <;> rfl) | (simp [*, errW_none, errW_some] <;> rfl), by repeat (first | (with_reducible first | exact HB.out | apply below_alloc | apply pw_below_drewN | apply below_drew1) | exact HB.out)⟩

/-! ### verbatimlaw20_great: function 22 -/
mutual
def verbatimlaw20_great.l0 : Nat → Int → Int → Int → Int → List ByteArray → List (S40) → Option (Bool)
 | 0, _, _, _, _, _, _ => none
 | k + 1, x1, x5, x6, x135000, x135001, x135002 => if x6 < (x135002.length : Int) then (if x5 < 2000 then (verbatimlaw20_great.j1 k x1 x5 x6 (decide (x1 > 0)) x135000 x135001 x135002) else (verbatimlaw20_great.j1 k x1 x5 x6 false x135000 x135001 x135002)) else (verbatimlaw20_great.j1 k x1 x5 x6 false x135000 x135001 x135002)
def verbatimlaw20_great.j1 : Nat → Int → Int → Int → Bool → Int → List ByteArray → List (S40) → Option (Bool)
 | 0, _, _, _, _, _, _, _ => none
 | k + 1, x1, x5, x6, x26, x135000, x135001, x135002 => if x26 = true then (if 0 ≤ x6 then (if x6 < (x135002.length : Int) then ((verbatimlaw20_great.f k ((rd_T40 x135002 x6).f0) ((rd_T40 x135002 x6).f1) ((rd_T40 x135002 x6).f2) (wrap64 (x1 - 1))).bind fun t136 => (if t136 = true then (some true) else (verbatimlaw20_great.l0 k x1 x5 (wrap64 (x6 + 1)) x135000 x135001 x135002))) else (none)) else (none)) else (some (decide (x5 ≥ 2000)))
def verbatimlaw20_great.f : Nat → Int → List ByteArray → List (S40) → Int → Option (Bool)
 | 0, _, _, _, _ => none
 | k + 1, a0_0, l0_1, l0_2, a1 => verbatimlaw20_great.l0 k a1 (wrap64 ((l0_1.length : Int) + (l0_2.length : Int))) 0 a0_0 l0_1 l0_2
end
theorem verbatimlaw20_great.mono_l : ∀ k, (∀ y0 y1 y2 y3, LeO (verbatimlaw20_great.f k y0 y1 y2 y3) (verbatimlaw20_great.f (k + 1) y0 y1 y2 y3)) ∧ (∀ y0 y1 y2 y3 y4 y5, LeO (verbatimlaw20_great.l0 k y0 y1 y2 y3 y4 y5) (verbatimlaw20_great.l0 (k + 1) y0 y1 y2 y3 y4 y5)) ∧ (∀ y0 y1 y2 y3 y4 y5 y6, LeO (verbatimlaw20_great.j1 k y0 y1 y2 y3 y4 y5 y6) (verbatimlaw20_great.j1 (k + 1) y0 y1 y2 y3 y4 y5 y6))
 | 0 => ⟨fun _ _ _ _ r h => by simp [verbatimlaw20_great.f] at h, fun _ _ _ _ _ _ r h => by simp [verbatimlaw20_great.l0] at h, fun _ _ _ _ _ _ _ r h => by simp [verbatimlaw20_great.j1] at h⟩
 | k + 1 => by
  obtain ⟨ih0, ih1, ih2⟩ := verbatimlaw20_great.mono_l k
  refine ⟨?_, ?_, ?_⟩
  ·intro y0 y1 y2 y3
   unfold verbatimlaw20_great.f
   repeat' first
   | (with_reducible exact ih0 _ _ _ _)
   | (with_reducible exact ih1 _ _ _ _ _ _)
   | (with_reducible exact ih2 _ _ _ _ _ _ _)
   | (with_reducible exact LeO.refl _)
   | (with_reducible exact LeO.none _)
   | (with_reducible refine LeO.ite ?_ ?_)
   | (with_reducible refine LeO.bind ?_ (fun _ => ?_))
   | exact ih0 _ _ _ _
   | exact ih1 _ _ _ _ _ _
   | exact ih2 _ _ _ _ _ _ _
   | exact LeO.none _
   | refine LeO.ite ?_ ?_
   | refine LeO.bind ?_ (fun _ => ?_)
  ·intro y0 y1 y2 y3 y4 y5
   unfold verbatimlaw20_great.l0
   repeat' first
   | (with_reducible exact ih0 _ _ _ _)
   | (with_reducible exact ih1 _ _ _ _ _ _)
   | (with_reducible exact ih2 _ _ _ _ _ _ _)
   | (with_reducible exact LeO.refl _)
   | (with_reducible exact LeO.none _)
   | (with_reducible refine LeO.ite ?_ ?_)
   | (with_reducible refine LeO.bind ?_ (fun _ => ?_))
   | exact ih0 _ _ _ _
   | exact ih1 _ _ _ _ _ _
   | exact ih2 _ _ _ _ _ _ _
   | exact LeO.none _
   | refine LeO.ite ?_ ?_
   | refine LeO.bind ?_ (fun _ => ?_)
  ·intro y0 y1 y2 y3 y4 y5 y6
   unfold verbatimlaw20_great.j1
   repeat' first
   | (with_reducible exact ih0 _ _ _ _)
   | (with_reducible exact ih1 _ _ _ _ _ _)
   | (with_reducible exact ih2 _ _ _ _ _ _ _)
   | (with_reducible exact LeO.refl _)
   | (with_reducible exact LeO.none _)
   | (with_reducible refine LeO.ite ?_ ?_)
   | (with_reducible refine LeO.bind ?_ (fun _ => ?_))
   | exact ih0 _ _ _ _
   | exact ih1 _ _ _ _ _ _
   | exact ih2 _ _ _ _ _ _ _
   | exact LeO.none _
   | refine LeO.ite ?_ ?_
   | refine LeO.bind ?_ (fun _ => ?_)
theorem verbatimlaw20_great.mono : ∀ a0 a1 a2 a3 k, LeO (verbatimlaw20_great.f k a0 a1 a2 a3) (verbatimlaw20_great.f (k + 1) a0 a1 a2 a3) := by
 intro a0 a1 a2 a3 k
 obtain ⟨ih0, ih1, ih2⟩ := verbatimlaw20_great.mono_l k
 exact ih0 a0 a1 a2 a3
set_option maxHeartbeats 8000000 in
set_option maxRecDepth 100000 in
theorem verbatimlaw20_great.calls (k : Nat) : ∀ (a0_0 : Int) (A0_1 : Option Addr) (c0_1 : Nat) (l0_1 : List ByteArray) (A0_2 : Option Addr) (c0_2 : Nat) (l0_2 : List (S40)) (a1 : Int) (r : Bool) (w : World) (hr0_1 : Kd.C Kd.string w A0_1 l0_1.length l0_1) (hc0_1 : l0_1.length ≤ c0_1) (hr0_2 : Kd.C k40 w A0_2 l0_2.length l0_2) (hc0_2 : l0_2.length ≤ c0_2) (h : verbatimlaw20_great.f k a0_0 l0_1 l0_2 a1 = some r),
  Calls Try.prog 22 #[.agg #[.int .i64 a0_0, .slice A0_1 l0_1.length c0_1, .slice A0_2 l0_2.length c0_2], .int .i64 a1] w fun e w' => e = .returned (.bool r) ∧ Below w.heap.size w w' := by
 induction k using Nat.strongRecOn with
 | _ k ih =>
 intro a0_0 A0_1 c0_1 l0_1 A0_2 c0_2 l0_2 a1 r w hr0_1 hc0_1 hr0_2 hc0_2 h
 cases k with
 | zero => exact absurd h (by simp [verbatimlaw20_great.f])
 | succ k =>
 simp only [verbatimlaw20_great.f] at h
 have hu40 := Try.underlying40
 have HR0_1 := am hr0_1
 have HC0_1 := am hc0_1
 clear hr0_1 hc0_1
 have HR0_2 := am hr0_2
 have HC0_2 := am hc0_2
 clear hr0_2 hc0_2
 have HB := am (Below.refl w.heap.size w)
 have H : (verbatimlaw20_great.l0 k a1 (wrap64 ((l0_1.length : Int) + (l0_2.length : Int))) 0 a0_0 l0_1 l0_2) = some r := h
 clear h
 have H' := am H
 clear H
 go_enter Try.func22, Try.ntmps22
 go_wp2_with (first | ((with_reducible refine gate_dst (N := 2) rfl ?_); refine box_event ?hg (N := 2) ?hd (cs := #[.int .i64 a0_0, .slice A0_1 l0_1.length c0_1, .slice A0_2 l0_2.length c0_2]) (t := 40) ?hr ?_; (case hd => rfl); (case hg => rfl); (case hr => first | (go_simp; done) | (go_simp; rfl)); intro gb134 hg w3 hbox hb; have BK134 := am (hbox); have GW134 := am ((by rw [hg]; exact (below_size (lU HB.out)) : w.heap.size ≤ gb134)); have GE134 := am ((by rw [hg]; exact (below_size (lU HB.out)) : w.heap.size ≤ gb134)); replace HB := am (below_step (lU HB.out) hb); clear hb hbox hg; have hcz4_0 : w3.cell? ⟨gb134, 0, none⟩ = some (.int .i64 a0_0) := (blk_cell BK134.out 0).trans rfl; have hcz4_1 : w3.cell? ⟨gb134, 1, none⟩ = some (.slice A0_1 l0_1.length c0_1) := (blk_cell BK134.out 1).trans rfl; have hcz4_2 : w3.cell? ⟨gb134, 2, none⟩ = some (.slice A0_2 l0_2.length c0_2) := (blk_cell BK134.out 2).trans rfl; have hfz4_0 := blk_frozen BK134.out 0; have hfz4_1 := blk_frozen BK134.out 1; have hfz4_2 := blk_frozen BK134.out 2))
 go_loopg [6] k (fun kq v6 w' => ∃ (x6_1 : Int), v6 = .int .i64 x6_1 ∧ Aside0 (verbatimlaw20_great.l0 kq a1 (wrap64 ((l0_1.length : Int) + (l0_2.length : Int))) x6_1 a0_0 l0_1 l0_2 = some r) ∧ Aside0 (kq ≤ k) ∧ Aside0 (w'.heap[gb134]? = some (.cells #[.int .i64 a0_0, (.slice A0_1 l0_1.length c0_1), (.slice A0_2 l0_2.length c0_2)] 40 (0, 0))) ∧ Aside0 (Below w.heap.size w w'))
 case atStart => exact ⟨(0), (by first | rfl | (simp; done) | (simp [*]; done)), H', ⟨Nat.le_refl _⟩, ⟨by (with_reducible repeat (first | refine blk_drewN ?_ _ | refine blk_drew ?_ | refine blk_alloc ?_ _)); exact BK134.out⟩, ⟨by repeat (first | (with_reducible first | exact HB.out | apply below_alloc | apply pw_below_drewN | apply below_drew1 | refine below_set ?_ GE134.out) | exact HB.out)⟩⟩
 case round =>
  clear H'
  try clear c2
  try clear p2
  try clear hcz4_0
  try clear hcz4_1
  try clear hcz4_2
  try clear hfz4_0
  try clear hfz4_1
  try clear hfz4_2
  obtain ⟨x6_1, rfl, HA, HK1, BK134, HB⟩ := hrel
  cases gk with
  | zero => exact absurd HA.out (by simp [verbatimlaw20_great.l0])
  | succ k1 =>
   have H := HA.out
   clear HA
   simp only [verbatimlaw20_great.l0] at H
   have HC5 := am H
   clear H
   go_upto_region 3 with (fail)
   go_cut [26] (fun v26 wc => ∃ (kq : Nat) (x26_4 : Bool), v26 = .bool x26_4 ∧ Aside0 (verbatimlaw20_great.j1 kq a1 (wrap64 ((l0_1.length : Int) + (l0_2.length : Int))) x6_1 x26_4 a0_0 l0_1 l0_2 = some r) ∧ Aside0 (kq ≤ k1) ∧ Aside0 (wc.heap[gb134]? = some (.cells #[.int .i64 a0_0, (.slice A0_1 l0_1.length c0_1), (.slice A0_2 l0_2.length c0_2)] 40 (0, 0))) ∧ Aside0 (Below w.heap.size w wc))
   case first =>
    have H := HC5.out
    clear HC5
    by_cases c6 : x6_1 < (l0_2.length : Int)
    ·rw [if_pos c6] at H
     have c6b0 : decide (x6_1 < (l0_2.length : Int)) = true := decide_eq_true c6
     clear c6
     (first | rw [c6b0] | (simp only [i64_w, i32_w]; rw [c6b0]) | skip)
     by_cases c7 : (wrap64 ((l0_1.length : Int) + (l0_2.length : Int))) < 2000
     ·rw [if_pos c7] at H
      have c7b0 : decide ((wrap64 ((l0_1.length : Int) + (l0_2.length : Int))) < 2000) = true := decide_eq_true c7
      clear c7
      have H' := am H
      clear H
      have hcz8_0 : wr.cell? ⟨gb134, 0, none⟩ = some (.int .i64 a0_0) := (blk_cell BK134.out 0).trans rfl
      have hcz8_1 : wr.cell? ⟨gb134, 1, none⟩ = some (.slice A0_1 l0_1.length c0_1) := (blk_cell BK134.out 1).trans rfl
      have hcz8_2 : wr.cell? ⟨gb134, 2, none⟩ = some (.slice A0_2 l0_2.length c0_2) := (blk_cell BK134.out 2).trans rfl
      have hfz8_0 := blk_frozen BK134.out 0
      have hfz8_1 := blk_frozen BK134.out 1
      have hfz8_2 := blk_frozen BK134.out 2
      go_wp2
      go_meet
      case rel => exact ⟨_, (decide (a1 > 0)), (by first | rfl | (simp; done) | (simp [*]; done)), H', ⟨by have := HK1.out; first | omega | exact Nat.le_refl _⟩, ⟨by (with_reducible repeat (first | refine blk_drewN ?_ _ | refine blk_drew ?_ | refine blk_alloc ?_ _)); exact BK134.out⟩, ⟨by repeat (first | (with_reducible first | exact HB.out | apply below_alloc | apply pw_below_drewN | apply below_drew1 | refine below_set ?_ GE134.out) | exact HB.out)⟩⟩
     ·rw [if_neg c7] at H
      have c7b0 : decide ((wrap64 ((l0_1.length : Int) + (l0_2.length : Int))) < 2000) = false := decide_eq_false c7
      clear c7
      have H' := am H
      clear H
      have hcz9_0 : wr.cell? ⟨gb134, 0, none⟩ = some (.int .i64 a0_0) := (blk_cell BK134.out 0).trans rfl
      have hcz9_1 : wr.cell? ⟨gb134, 1, none⟩ = some (.slice A0_1 l0_1.length c0_1) := (blk_cell BK134.out 1).trans rfl
      have hcz9_2 : wr.cell? ⟨gb134, 2, none⟩ = some (.slice A0_2 l0_2.length c0_2) := (blk_cell BK134.out 2).trans rfl
      have hfz9_0 := blk_frozen BK134.out 0
      have hfz9_1 := blk_frozen BK134.out 1
      have hfz9_2 := blk_frozen BK134.out 2
      go_wp2
      go_meet
      case rel => exact ⟨_, (false), (by first | rfl | (simp; done) | (simp [*]; done)), H', ⟨by have := HK1.out; first | omega | exact Nat.le_refl _⟩, ⟨by (with_reducible repeat (first | refine blk_drewN ?_ _ | refine blk_drew ?_ | refine blk_alloc ?_ _)); exact BK134.out⟩, ⟨by repeat (first | (with_reducible first | exact HB.out | apply below_alloc | apply pw_below_drewN | apply below_drew1 | refine below_set ?_ GE134.out) | exact HB.out)⟩⟩
    ·rw [if_neg c6] at H
     have c6b0 : decide (x6_1 < (l0_2.length : Int)) = false := decide_eq_false c6
     clear c6
     (first | rw [c6b0] | (simp only [i64_w, i32_w]; rw [c6b0]) | skip)
     have H' := am H
     clear H
     have hcz10_0 : wr.cell? ⟨gb134, 0, none⟩ = some (.int .i64 a0_0) := (blk_cell BK134.out 0).trans rfl
     have hcz10_1 : wr.cell? ⟨gb134, 1, none⟩ = some (.slice A0_1 l0_1.length c0_1) := (blk_cell BK134.out 1).trans rfl
     have hcz10_2 : wr.cell? ⟨gb134, 2, none⟩ = some (.slice A0_2 l0_2.length c0_2) := (blk_cell BK134.out 2).trans rfl
     have hfz10_0 := blk_frozen BK134.out 0
     have hfz10_1 := blk_frozen BK134.out 1
     have hfz10_2 := blk_frozen BK134.out 2
     go_wp2
     go_meet
     case rel => exact ⟨_, (false), (by first | rfl | (simp; done) | (simp [*]; done)), H', ⟨by have := HK1.out; first | omega | exact Nat.le_refl _⟩, ⟨by (with_reducible repeat (first | refine blk_drewN ?_ _ | refine blk_drew ?_ | refine blk_alloc ?_ _)); exact BK134.out⟩, ⟨by repeat (first | (with_reducible first | exact HB.out | apply below_alloc | apply pw_below_drewN | apply below_drew1 | refine below_set ?_ GE134.out) | exact HB.out)⟩⟩
   case rest =>
    clear HC5
    try clear c2
    try clear p2
    try clear c6
    try clear c6b0
    try clear p6
    try clear c7
    try clear c7b0
    try clear hcz10_0
    try clear hcz10_1
    try clear hcz10_2
    try clear hcz4_0
    try clear hcz4_1
    try clear hcz4_2
    try clear hcz8_0
    try clear hcz8_1
    try clear hcz8_2
    try clear hcz9_0
    try clear hcz9_1
    try clear hcz9_2
    try clear hfz10_0
    try clear hfz10_1
    try clear hfz10_2
    try clear hfz4_0
    try clear hfz4_1
    try clear hfz4_2
    try clear hfz8_0
    try clear hfz8_1
    try clear hfz8_2
    try clear hfz9_0
    try clear hfz9_1
    try clear hfz9_2
    try clear p2
    obtain ⟨kq, x26_4, rfl, HA, HJ4, BK134, HB⟩ := hcut
    cases kq with
    | zero => exact absurd HA.out (by simp [verbatimlaw20_great.j1])
    | succ kj4 =>
     have H := HA.out
     clear HA
     simp only [verbatimlaw20_great.j1] at H
     by_cases c11 : x26_4 = true
     ·subst c11
      have H1 : (if 0 ≤ x6_1 then (if x6_1 < (l0_2.length : Int) then ((verbatimlaw20_great.f kj4 ((rd_T40 l0_2 x6_1).f0) ((rd_T40 l0_2 x6_1).f1) ((rd_T40 l0_2 x6_1).f2) (wrap64 (a1 - 1))).bind fun t136 => (if t136 = true then (some true) else (verbatimlaw20_great.l0 kj4 a1 (wrap64 ((l0_1.length : Int) + (l0_2.length : Int))) (wrap64 (x6_1 + 1)) a0_0 l0_1 l0_2))) else (none)) else (none)) = some r := by rw [if_pos rfl] at H; exact H
      clear H
      have H := H1
      clear H1
      by_cases c12 : 0 ≤ x6_1
      ·rw [if_pos c12] at H
       have c12b0 : decide (0 ≤ x6_1) = true := decide_eq_true c12
       clear c12
       by_cases c13 : x6_1 < (l0_2.length : Int)
       ·rw [if_pos c13] at H
        have c13b0 : decide (x6_1 < (l0_2.length : Int)) = true := decide_eq_true c13
        clear c13
        replace H := Option.bind_eq_some_iff.mp H
        obtain ⟨t136, A140, H⟩ := H
        replace H : (if t136 = true then (some true) else (verbatimlaw20_great.l0 kj4 a1 (wrap64 ((l0_1.length : Int) + (l0_2.length : Int))) (wrap64 (x6_1 + 1)) a0_0 l0_1 l0_2)) = some r := H
        have A14 := am A140
        clear A140
        by_cases c15 : t136 = true
        ·subst c15
         have H1 : (some true) = some r := by rw [if_pos rfl] at H; exact H
         clear H
         have H := H1
         clear H1
         obtain rfl := Option.some.inj H
         have hcz16_0 : wc.cell? ⟨gb134, 0, none⟩ = some (.int .i64 a0_0) := (blk_cell BK134.out 0).trans rfl
         have hcz16_1 : wc.cell? ⟨gb134, 1, none⟩ = some (.slice A0_1 l0_1.length c0_1) := (blk_cell BK134.out 1).trans rfl
         have hcz16_2 : wc.cell? ⟨gb134, 2, none⟩ = some (.slice A0_2 l0_2.length c0_2) := (blk_cell BK134.out 2).trans rfl
         have hfz16_0 := blk_frozen BK134.out 0
         have hfz16_1 := blk_frozen BK134.out 1
         have hfz16_2 := blk_frozen BK134.out 2
         have p135 : 0 ≤ (x6_1 : Int) := of_decide_eq_true (by first | (with_reducible assumption) | assumption)
         have q135 : x6_1 < (l0_2.length : Int) := of_decide_eq_true (by first | (with_reducible assumption) | assumption)
         obtain ⟨ad135, A135_1, c135_1, A135_2, c135_2, e135, hx135_0, hx135_1, hx135_2, hl135_1, hi135_1, hl135_2, hi135_2⟩ := at_T40 HR0_2.out x6_1 p135 q135
         cases e135
         replace hx135_0 := (HB.out.cell (World.block_lt_of_cell? w _ hx135_0)).trans hx135_0
         replace hx135_1 := (HB.out.cell (World.block_lt_of_cell? w _ hx135_1)).trans hx135_1
         replace hx135_2 := (HB.out.cell (World.block_lt_of_cell? w _ hx135_2)).trans hx135_2
         have HR135_1 := am hi135_1
         have HC135_1 := am hl135_1
         clear hi135_1 hl135_1
         have HR135_2 := am hi135_2
         have HC135_2 := am hl135_2
         clear hi135_2 hl135_2
         replace p135 := eq_true p135
         replace q135 := eq_true q135
         go_wp2_with (first | ((with_reducible refine gate_callee (f := 22) rfl ?_); refine goesL_ (some 36) rfl rfl Try.func22 (by kernel_rfl) rfl #[.agg #[.int .i64 ((rd_T40 l0_2 x6_1).f0), .slice A135_1 ((rd_T40 l0_2 x6_1).f1).length c135_1, .slice A135_2 ((rd_T40 l0_2 x6_1).f2).length c135_2], .int .i64 (wrap64 (a1 - 1))] rfl (by (try simp only [List.map_toArray, List.map_cons, List.map_nil]); first | done | rfl | (simp only [List.length_drop, List.length_take]; rfl)) ?_; (with_reducible refine (ih kj4 (by have := HK1.out; have := HJ4.out; omega) ((rd_T40 l0_2 x6_1).f0) _ _ ((rd_T40 l0_2 x6_1).f1) _ _ ((rd_T40 l0_2 x6_1).f2) (wrap64 (a1 - 1)) true _ ?side1 ?side2 ?side3 ?side4 A14.out).mono ?_); (case side1 => repeat (first | exact (Kd.C_below HR135_1.out HB.out) | (with_reducible refine Kd.C_alloc ?_ _) | (with_reducible refine Kd.C_drewN ?_ _) | (with_reducible refine Kd.C_drew ?_))); (case side2 => exact HC135_1.out); (case side3 => repeat (first | exact (Kd.C_below HR135_2.out HB.out) | (with_reducible refine Kd.C_alloc ?_ _) | (with_reducible refine Kd.C_drewN ?_ _) | (with_reducible refine Kd.C_drew ?_))); (case side4 => exact HC135_2.out); rintro e w17 ⟨rfl, hb⟩; refine ⟨_, rfl, ?_⟩; replace BK134 := am (blk_below (bU BK134.out) hb); replace HB := am (below_step (by repeat first | exact lU HB.out | refine below_set ?_ GE134.out | apply below_alloc | apply pw_below_drewN | apply below_drew1) hb); (try clear hb); (try clear hb2); (try clear hk); (try clear hi)))
         go_ret
         exact ⟨by first | rfl | (simp [errW_none, errW_some] <;> rfl) | (simp [*, errW_none, errW_some] <;> rfl), by repeat (first | (with_reducible first | exact HB.out | apply below_alloc | apply pw_below_drewN | apply below_drew1 | refine below_set ?_ GE134.out) | exact HB.out)⟩
        ·replace c15 := Bool.eq_false_iff.mpr c15
         subst c15
         have H1 : (verbatimlaw20_great.l0 kj4 a1 (wrap64 ((l0_1.length : Int) + (l0_2.length : Int))) (wrap64 (x6_1 + 1)) a0_0 l0_1 l0_2) = some r := by rw [if_neg (show ¬ (false = true) by decide)] at H; exact H
         clear H
         have H := H1
         clear H1
         have H' := am H
         clear H
         have hcz18_0 : wc.cell? ⟨gb134, 0, none⟩ = some (.int .i64 a0_0) := (blk_cell BK134.out 0).trans rfl
         have hcz18_1 : wc.cell? ⟨gb134, 1, none⟩ = some (.slice A0_1 l0_1.length c0_1) := (blk_cell BK134.out 1).trans rfl
         have hcz18_2 : wc.cell? ⟨gb134, 2, none⟩ = some (.slice A0_2 l0_2.length c0_2) := (blk_cell BK134.out 2).trans rfl
         have hfz18_0 := blk_frozen BK134.out 0
         have hfz18_1 := blk_frozen BK134.out 1
         have hfz18_2 := blk_frozen BK134.out 2
         have p135 : 0 ≤ (x6_1 : Int) := of_decide_eq_true (by first | (with_reducible assumption) | assumption)
         have q135 : x6_1 < (l0_2.length : Int) := of_decide_eq_true (by first | (with_reducible assumption) | assumption)
         obtain ⟨ad135, A135_1, c135_1, A135_2, c135_2, e135, hx135_0, hx135_1, hx135_2, hl135_1, hi135_1, hl135_2, hi135_2⟩ := at_T40 HR0_2.out x6_1 p135 q135
         cases e135
         replace hx135_0 := (HB.out.cell (World.block_lt_of_cell? w _ hx135_0)).trans hx135_0
         replace hx135_1 := (HB.out.cell (World.block_lt_of_cell? w _ hx135_1)).trans hx135_1
         replace hx135_2 := (HB.out.cell (World.block_lt_of_cell? w _ hx135_2)).trans hx135_2
         have HR135_1 := am hi135_1
         have HC135_1 := am hl135_1
         clear hi135_1 hl135_1
         have HR135_2 := am hi135_2
         have HC135_2 := am hl135_2
         clear hi135_2 hl135_2
         replace p135 := eq_true p135
         replace q135 := eq_true q135
         go_wp2_with (first | ((with_reducible refine gate_callee (f := 22) rfl ?_); refine goesL_ (some 36) rfl rfl Try.func22 (by kernel_rfl) rfl #[.agg #[.int .i64 ((rd_T40 l0_2 x6_1).f0), .slice A135_1 ((rd_T40 l0_2 x6_1).f1).length c135_1, .slice A135_2 ((rd_T40 l0_2 x6_1).f2).length c135_2], .int .i64 (wrap64 (a1 - 1))] rfl (by (try simp only [List.map_toArray, List.map_cons, List.map_nil]); first | done | rfl | (simp only [List.length_drop, List.length_take]; rfl)) ?_; (with_reducible refine (ih kj4 (by have := HK1.out; have := HJ4.out; omega) ((rd_T40 l0_2 x6_1).f0) _ _ ((rd_T40 l0_2 x6_1).f1) _ _ ((rd_T40 l0_2 x6_1).f2) (wrap64 (a1 - 1)) false _ ?side1 ?side2 ?side3 ?side4 A14.out).mono ?_); (case side1 => repeat (first | exact (Kd.C_below HR135_1.out HB.out) | (with_reducible refine Kd.C_alloc ?_ _) | (with_reducible refine Kd.C_drewN ?_ _) | (with_reducible refine Kd.C_drew ?_))); (case side2 => exact HC135_1.out); (case side3 => repeat (first | exact (Kd.C_below HR135_2.out HB.out) | (with_reducible refine Kd.C_alloc ?_ _) | (with_reducible refine Kd.C_drewN ?_ _) | (with_reducible refine Kd.C_drew ?_))); (case side4 => exact HC135_2.out); rintro e w19 ⟨rfl, hb⟩; refine ⟨_, rfl, ?_⟩; replace BK134 := am (blk_below (bU BK134.out) hb); replace HB := am (below_step (by repeat first | exact lU HB.out | refine below_set ?_ GE134.out | apply below_alloc | apply pw_below_drewN | apply below_drew1) hb); (try clear hb); (try clear hb2); (try clear hk); (try clear hi)))
         go_roundg kj4
         case measure => have := HK1.out; have := HJ4.out; omega
         case rel => exact ⟨(wrap64 (x6_1 + 1)), (by first | rfl | (simp; done) | (simp [*]; done)), H', ⟨by have := HK1.out; have := HJ4.out; omega⟩, ⟨by (with_reducible repeat (first | refine blk_drewN ?_ _ | refine blk_drew ?_ | refine blk_alloc ?_ _)); exact BK134.out⟩, ⟨by repeat (first | (with_reducible first | exact HB.out | apply below_alloc | apply pw_below_drewN | apply below_drew1 | refine below_set ?_ GE134.out) | exact HB.out)⟩⟩
       ·rw [if_neg c13] at H
        exact absurd H (by simp)
      ·rw [if_neg c12] at H
       exact absurd H (by simp)
     ·replace c11 := Bool.eq_false_iff.mpr c11
      subst c11
      have H1 : (some (decide ((wrap64 ((l0_1.length : Int) + (l0_2.length : Int))) ≥ 2000))) = some r := by rw [if_neg (show ¬ (false = true) by decide)] at H; exact H
      clear H
      have H := H1
      clear H1
      obtain rfl := Option.some.inj H
      go_wp2
      go_ret
      exact ⟨by first | rfl | (simp [errW_none, errW_some] <;> rfl) | (simp [*, errW_none, errW_some] <;> rfl), by repeat (first | (with_reducible first | exact HB.out | apply below_alloc | apply pw_below_drewN | apply below_drew1 | refine below_set ?_ GE134.out) | exact HB.out)⟩

/-! ### verbatimref20_stands: function 32 -/
def verbatimref20_stands.l0 : Nat → ByteArray → ByteArray → Int → Option (Int)
 | 0, _, _, _ => none
 | k + 1, x0, x1, x7 => if (wrap64 (x7 + (x1.size : Int))) ≤ (x0.size : Int) then (if 0 ≤ x7 then (if x7 ≤ (wrap64 (x7 + (x1.size : Int))) then (if (x0.extract (x7 : Int).toNat ((wrap64 (x7 + (x1.size : Int))) : Int).toNat).toList = x1.toList then (some x7) else (verbatimref20_stands.l0 k x0 x1 (wrap64 (x7 + 1)))) else (none)) else (none)) else (some (-1))
def verbatimref20_stands.f (k : Nat) (a0 : ByteArray) (a1 : ByteArray) (a2 : Int) : Option (Int) := verbatimref20_stands.l0 k a0 a1 a2
theorem verbatimref20_stands.mono_l : ∀ k, (∀ y0 y1 y2, LeO (verbatimref20_stands.l0 k y0 y1 y2) (verbatimref20_stands.l0 (k + 1) y0 y1 y2))
 | 0 => fun _ _ _ r h => by simp [verbatimref20_stands.l0] at h
 | k + 1 => by
  have ih0 := verbatimref20_stands.mono_l k
  ·intro y0 y1 y2
   unfold verbatimref20_stands.l0
   repeat' first
   | (with_reducible exact ih0 _ _ _)
   | (with_reducible exact LeO.refl _)
   | (with_reducible exact LeO.none _)
   | (with_reducible refine LeO.ite ?_ ?_)
   | (with_reducible refine LeO.bind ?_ (fun _ => ?_))
   | exact ih0 _ _ _
   | exact LeO.none _
   | refine LeO.ite ?_ ?_
   | refine LeO.bind ?_ (fun _ => ?_)
theorem verbatimref20_stands.mono : ∀ a0 a1 a2 k, LeO (verbatimref20_stands.f k a0 a1 a2) (verbatimref20_stands.f (k + 1) a0 a1 a2) := by
 intro a0 a1 a2 k
 have ih0 := verbatimref20_stands.mono_l k
 unfold verbatimref20_stands.f
 repeat' first
   | (with_reducible exact ih0 _ _ _)
   | (with_reducible exact LeO.refl _)
   | (with_reducible exact LeO.none _)
   | (with_reducible refine LeO.ite ?_ ?_)
   | (with_reducible refine LeO.bind ?_ (fun _ => ?_))
   | exact ih0 _ _ _
   | exact LeO.none _
   | refine LeO.ite ?_ ?_
   | refine LeO.bind ?_ (fun _ => ?_)
set_option maxHeartbeats 8000000 in
set_option maxRecDepth 100000 in
theorem verbatimref20_stands.calls (k : Nat) (a0 : ByteArray) (a1 : ByteArray) (a2 : Int) (r : Int) (w : World) (h : verbatimref20_stands.f k a0 a1 a2 = some r) :
  Calls Try.prog 32 #[.string a0, .string a1, .int .i64 a2] w fun e w' => e = .returned (.int .i64 r) ∧ Drawn0 w w' := by
 have H : (verbatimref20_stands.l0 k a0 a1 a2) = some r := h
 clear h
 have H' := am H
 clear H
 go_enter Try.func32, Try.ntmps32
 go_wp2
 go_loopg [7] k (fun kq v7 w' => ∃ (x7_1 : Int), v7 = .int .i64 x7_1 ∧ Aside0 (verbatimref20_stands.l0 kq a0 a1 x7_1 = some r) ∧ Aside0 (kq ≤ k) ∧ Drawn0 w w')
 case atStart => exact ⟨(a2), (by first | rfl | (simp; done) | (simp [*]; done)), H', ⟨Nat.le_refl _⟩, by repeat (first | exact Drawn0.refl _ | apply Drawn0.step)⟩
 case round =>
  clear H'
  try clear p2
  try clear c3
  obtain ⟨x7_1, rfl, HA, HK1, ⟨m1, rfl⟩⟩ := hrel
  cases gk with
  | zero => exact absurd HA.out (by simp [verbatimref20_stands.l0])
  | succ k1 =>
   have H := HA.out
   clear HA
   simp only [verbatimref20_stands.l0] at H
   by_cases c4 : (wrap64 (x7_1 + (a1.size : Int))) ≤ (a0.size : Int)
   ·rw [if_pos c4] at H
    have c4b0 : decide ((wrap64 (x7_1 + (a1.size : Int))) ≤ (a0.size : Int)) = true := decide_eq_true c4
    clear c4
    by_cases c5 : 0 ≤ x7_1
    ·rw [if_pos c5] at H
     have c5b0 := eq_true c5
     have c5b1 : decide (0 ≤ x7_1) = true := decide_eq_true c5
     clear c5
     by_cases c6 : x7_1 ≤ (wrap64 (x7_1 + (a1.size : Int)))
     ·rw [if_pos c6] at H
      have c6b0 := eq_true c6
      have c6b1 : decide (x7_1 ≤ (wrap64 (x7_1 + (a1.size : Int)))) = true := decide_eq_true c6
      have c7b0 := eq_true (of_decide_eq_true (by first | (with_reducible assumption) | assumption) : (wrap64 (x7_1 + (a1.size : Int))) ≤ (a0.size : Int))
      by_cases c8 : (a0.extract (x7_1 : Int).toNat ((wrap64 (x7_1 + (a1.size : Int))) : Int).toNat).toList = a1.toList
      ·rw [if_pos c8] at H
       have c8b0 : ((a0.extract (x7_1 : Int).toNat ((wrap64 (x7_1 + (a1.size : Int))) : Int).toNat).toList == a1.toList) = true := beq_iff_eq.mpr c8
       have c8b1 : ((a0.extract (x7_1 : Int).toNat ((wrap64 (x7_1 + (a1.size : Int))) : Int).toNat).toList != a1.toList) = false := bne_eq_false_iff_eq.mpr c8
       clear c8
       obtain rfl := Option.some.inj H
       go_wp2
       go_ret
       exact ⟨by first | rfl | (simp; done) | (simp [*]; done), by repeat (first | exact Drawn0.refl _ | apply Drawn0.step)⟩
      ·rw [if_neg c8] at H
       have c8b0 : ((a0.extract (x7_1 : Int).toNat ((wrap64 (x7_1 + (a1.size : Int))) : Int).toNat).toList == a1.toList) = false := beq_eq_false_iff_ne.mpr c8
       have c8b1 : ((a0.extract (x7_1 : Int).toNat ((wrap64 (x7_1 + (a1.size : Int))) : Int).toNat).toList != a1.toList) = true := bne_iff_ne.mpr c8
       have H' := am H
       clear H
       go_wp2
       go_roundg k1
       case measure => have := HK1.out; omega
       case rel => exact ⟨(wrap64 (x7_1 + 1)), (by first | rfl | (simp; done) | (simp [*]; done)), H', ⟨by have := HK1.out; omega⟩, by repeat (first | exact Drawn0.refl _ | apply Drawn0.step)⟩
     ·rw [if_neg c6] at H
      exact absurd H (by simp)
    ·rw [if_neg c5] at H
     exact absurd H (by simp)
   ·rw [if_neg c4] at H
    have c4b0 : decide ((wrap64 (x7_1 + (a1.size : Int))) ≤ (a0.size : Int)) = false := decide_eq_false c4
    clear c4
    obtain rfl := Option.some.inj H
    go_wp2
    go_ret
    exact ⟨by first | rfl | (simp; done) | (simp [*]; done), by repeat (first | exact Drawn0.refl _ | apply Drawn0.step)⟩

/-! ### verbatimref20_Find: function 24 -/
def verbatimref20_Find.l0 : Nat → List ByteArray → ByteArray → List Int → Int → Int → Option (List Int × Bool)
 | 0, _, _, _, _, _ => none
 | k + 1, x0, x1, x6, x7, x8 => if x8 < (x0.length : Int) then (if 0 ≤ x8 then ((verbatimref20_stands.f k x1 (rdOf ByteArray.empty x0 x8) x7).bind fun t138 => (if t138 < 0 then (some (([] : List Int), false)) else (if x6.length < 17592186044416 then (verbatimref20_Find.l0 k x0 x1 (x6 ++ [t138]) (wrap64 (t138 + ((rdOf ByteArray.empty x0 x8).size : Int))) (wrap64 (x8 + 1))) else (none)))) else (none)) else (some (x6, true))
def verbatimref20_Find.f (k : Nat) (l0 : List ByteArray) (a1 : ByteArray) : Option (List Int × Bool) := verbatimref20_Find.l0 k l0 a1 ([] : List Int) 0 0
theorem verbatimref20_Find.mono_l : ∀ k, (∀ y0 y1 y2 y3 y4, LeO (verbatimref20_Find.l0 k y0 y1 y2 y3 y4) (verbatimref20_Find.l0 (k + 1) y0 y1 y2 y3 y4))
 | 0 => fun _ _ _ _ _ r h => by simp [verbatimref20_Find.l0] at h
 | k + 1 => by
  have ih0 := verbatimref20_Find.mono_l k
  ·intro y0 y1 y2 y3 y4
   unfold verbatimref20_Find.l0
   repeat' first
   | (with_reducible exact ih0 _ _ _ _ _)
   | (with_reducible exact verbatimref20_stands.mono _ _ _ _)
   | (with_reducible exact LeO.refl _)
   | (with_reducible exact LeO.none _)
   | (with_reducible refine LeO.ite ?_ ?_)
   | (with_reducible refine LeO.bind ?_ (fun _ => ?_))
   | exact ih0 _ _ _ _ _
   | exact verbatimref20_stands.mono _ _ _ _
   | exact LeO.none _
   | refine LeO.ite ?_ ?_
   | refine LeO.bind ?_ (fun _ => ?_)
theorem verbatimref20_Find.mono : ∀ a0 a1 k, LeO (verbatimref20_Find.f k a0 a1) (verbatimref20_Find.f (k + 1) a0 a1) := by
 intro a0 a1 k
 have ih0 := verbatimref20_Find.mono_l k
 unfold verbatimref20_Find.f
 repeat' first
   | (with_reducible exact ih0 _ _ _ _ _)
   | (with_reducible exact verbatimref20_stands.mono _ _ _ _)
   | (with_reducible exact LeO.refl _)
   | (with_reducible exact LeO.none _)
   | (with_reducible refine LeO.ite ?_ ?_)
   | (with_reducible refine LeO.bind ?_ (fun _ => ?_))
   | exact ih0 _ _ _ _ _
   | exact verbatimref20_stands.mono _ _ _ _
   | exact LeO.none _
   | refine LeO.ite ?_ ?_
   | refine LeO.bind ?_ (fun _ => ?_)
set_option maxHeartbeats 8000000 in
set_option maxRecDepth 100000 in
theorem verbatimref20_Find.calls (k : Nat) (A0 : Option Addr) (c0 : Nat) (l0 : List ByteArray) (a1 : ByteArray) (r1 : List Int) (r2 : Bool) (w : World) (hr0 : Kd.C Kd.string w A0 l0.length l0) (hc0 : l0.length ≤ c0) (h : verbatimref20_Find.f k l0 a1 = some (r1, r2)) :
  Calls Try.prog 24 #[.slice A0 l0.length c0, .string a1] w fun e w' => ∃ v0_ : Value, e = .returned (.tuple #[v0_, .bool r2]) ∧ Kd.R (Kd.int .i64) 3 w' w.heap.size (fun _ => True) v0_ r1 ∧ Below w.heap.size w w' := by
 have HR0 := am hr0
 have HC0 := am hc0
 clear hr0 hc0
 have HB := am (Below.refl w.heap.size w)
 have H : (verbatimref20_Find.l0 k l0 a1 ([] : List Int) 0 0) = some (r1, r2) := h
 clear h
 have H' := am H
 clear H
 go_enter Try.func24, Try.ntmps24
 go_wp2
 go_loopg [6, 7, 8] k (fun kq v6 v7 v8 w' => ∃ (x6_1 : List Int) (x7_1 : Int) (x8_1 : Int), v7 = .int .i64 x7_1 ∧ v8 = .int .i64 x8_1 ∧ Aside0 (verbatimref20_Find.l0 kq l0 a1 x6_1 x7_1 x8_1 = some (r1, r2)) ∧ Aside0 (kq ≤ k) ∧ Aside0 (Kd.R (Kd.int .i64) 3 w' w.heap.size (fun _ => True) v6 x6_1) ∧ Aside0 (Below w.heap.size w w'))
 case atStart => exact ⟨(([] : List Int)), (0), (0), (by first | rfl | (simp; done) | (simp [*]; done)), (by first | rfl | (simp; done) | (simp [*]; done)), H', ⟨Nat.le_refl _⟩, ⟨by first | exact Kd.R_nil _ _ _ _ _ | exact Kd.N_nil _ _ _ _ _ | exact Kd.V_nil _ _ _ _ _ | exact Kd.Q_nil _ _ _ _ _ | exact Kd.S_nil _ _ _ _ _⟩, ⟨by repeat (first | (with_reducible first | exact HB.out | apply below_alloc | apply pw_below_drewN | apply below_drew1) | exact HB.out)⟩⟩
 case round =>
  clear H'
  try clear c2
  try clear p2
  obtain ⟨x6_1, x7_1, x8_1, rfl, rfl, HA, HK1, HO_6, HB⟩ := hrel
  cases gk with
  | zero => exact absurd HA.out (by simp [verbatimref20_Find.l0])
  | succ k1 =>
   have H := HA.out
   clear HA
   simp only [verbatimref20_Find.l0] at H
   by_cases c3 : x8_1 < (l0.length : Int)
   ·rw [if_pos c3] at H
    have c3b0 : decide (x8_1 < (l0.length : Int)) = true := decide_eq_true c3
    clear c3
    by_cases c4 : 0 ≤ x8_1
    ·rw [if_pos c4] at H
     have c4b0 : decide (0 ≤ x8_1) = true := decide_eq_true c4
     clear c4
     replace H := Option.bind_eq_some_iff.mp H
     obtain ⟨t138, A50, H⟩ := H
     replace H : (if t138 < 0 then (some (([] : List Int), false)) else (if x6_1.length < 17592186044416 then (verbatimref20_Find.l0 k1 l0 a1 (x6_1 ++ [t138]) (wrap64 (t138 + ((rdOf ByteArray.empty l0 x8_1).size : Int))) (wrap64 (x8_1 + 1))) else (none))) = some (r1, r2) := H
     have A5 := am A50
     clear A50
     by_cases c6 : t138 < 0
     ·rw [if_pos c6] at H
      have c6b0 : decide (t138 < 0) = true := decide_eq_true c6
      clear c6
      simp only [Option.some.injEq, Prod.mk.injEq] at H
      obtain ⟨rfl, rfl⟩ := H
      have p137 : 0 ≤ (x8_1 : Int) := of_decide_eq_true (by first | (with_reducible assumption) | assumption)
      have q137 : x8_1 < (l0.length : Int) := of_decide_eq_true (by first | (with_reducible assumption) | assumption)
      obtain ⟨ad137, e137, hx137_0⟩ := Kd.at_string HR0.out x8_1 p137 q137
      cases e137
      replace hx137_0 := (HB.out.cell (World.block_lt_of_cell? w _ hx137_0)).trans hx137_0
      replace p137 := eq_true p137
      replace q137 := eq_true q137
      go_wp2_with (first | ((with_reducible refine gate_callee (f := 32) rfl ?_); refine goesL_ (some 22) rfl rfl Try.func32 (by kernel_rfl) rfl #[.string a1, .string (rdOf ByteArray.empty l0 x8_1), .int .i64 x7_1] rfl (by (try simp only [List.map_toArray, List.map_cons, List.map_nil]); first | done | rfl | (simp only [List.length_drop, List.length_take]; rfl)) ?_; (with_reducible refine (verbatimref20_stands.calls k1 a1 (rdOf ByteArray.empty l0 x8_1) x7_1 t138 _ A5.out).mono ?_); rintro e w' ⟨rfl, ⟨nd, rfl⟩⟩; refine ⟨_, rfl, ?_⟩))
      go_ret2
      exact ⟨_, by first | rfl | (simp [errW_none, errW_some] <;> rfl) | (simp [*, errW_none, errW_some] <;> rfl), by first | exact Kd.R_nil _ _ _ _ _ | exact Kd.N_nil _ _ _ _ _ | exact Kd.V_nil _ _ _ _ _ | exact Kd.Q_nil _ _ _ _ _ | exact Kd.S_nil _ _ _ _ _, by repeat (first | (with_reducible first | exact HB.out | apply below_alloc | apply pw_below_drewN | apply below_drew1) | exact HB.out)⟩
     ·rw [if_neg c6] at H
      have c6b0 : decide (t138 < 0) = false := decide_eq_false c6
      clear c6
      by_cases c7 : x6_1.length < 17592186044416
      ·rw [if_pos c7] at H
       have LMc7 := am c7
       clear c7
       obtain ⟨y139, hy139⟩ : ∃ y_ : List Int, y_ = (x6_1 ++ [t138]) := ⟨_, rfl⟩
       replace H : (verbatimref20_Find.l0 k1 l0 a1 y139 (wrap64 (t138 + ((rdOf ByteArray.empty l0 x8_1).size : Int))) (wrap64 (x8_1 + 1))) = some (r1, r2) := by first | (rw [hy139]; with_reducible exact H) | (have H2_ := (Option.bind_some _ _).symm.trans H; rw [hy139]; with_reducible exact H2_) | (have H2_ := (Option.bind_some _ _).symm.trans H; with_reducible exact H2_) | with_reducible exact H | (rw [hy139]; exact H) | exact H
       have Ny139 := am hy139
       clear hy139
       have H' := am H
       clear H
       have p137 : 0 ≤ (x8_1 : Int) := of_decide_eq_true (by first | (with_reducible assumption) | assumption)
       have q137 : x8_1 < (l0.length : Int) := of_decide_eq_true (by first | (with_reducible assumption) | assumption)
       obtain ⟨ad137, e137, hx137_0⟩ := Kd.at_string HR0.out x8_1 p137 q137
       cases e137
       replace hx137_0 := (HB.out.cell (World.block_lt_of_cell? w _ hx137_0)).trans hx137_0
       replace p137 := eq_true p137
       replace q137 := eq_true q137
       go_wp2_with (first | ((with_reducible refine gate_callee (f := 32) rfl ?_); refine goesL_ (some 22) rfl rfl Try.func32 (by kernel_rfl) rfl #[.string a1, .string (rdOf ByteArray.empty l0 x8_1), .int .i64 x7_1] rfl (by (try simp only [List.map_toArray, List.map_cons, List.map_nil]); first | done | rfl | (simp only [List.length_drop, List.length_take]; rfl)) ?_; (with_reducible refine (verbatimref20_stands.calls k1 a1 (rdOf ByteArray.empty l0 x8_1) x7_1 t138 _ A5.out).mono ?_); rintro e w' ⟨rfl, ⟨nd, rfl⟩⟩; refine ⟨_, rfl, ?_⟩) | ((with_reducible refine gate_builtin (b := .append) (xs := #[.tmp 25, .tmp 27]) rfl ?_); at_builtin; refine Kd.R_append (Kd.int .i64) (w0 := w) w.heap.size rfl (.tmp 25) (.tmp 27) 23 3 (.int .i64 0) 8 rfl Try.underlying23 info3 rfl (by decide) (by omega) u6 x6_1 t138 [.int .i64 t138] (fun _ => True) (fun _ => False) rfl rfl ?aP (fun _ hk => hk.elim) ?aF ?aO ?aB ?aS ?aL ?_; (case aP => exact rfl); (case aB => exact (lU HB.out)); (case aF => exact (fun _ _ => trivial)); (case aO => exact (rU HO_6.out)); (case aS => exact (below_size (lU HB.out))); (case aL => have := LMc7.out; omega); intro v140 w8 ho hb hg hat; rw [← Ny139.out] at ho; have n0_ := am (hb); have n1_ := am (ho); clear HB; clear HO_6; have HB := n0_; have HO141 := n1_; clear n0_ n1_; clear ho hb hg hat; have p142 : 0 ≤ (x8_1 : Int) := of_decide_eq_true (by first | (with_reducible assumption) | assumption); have q142 : x8_1 < (l0.length : Int) := of_decide_eq_true (by first | (with_reducible assumption) | assumption); obtain ⟨ad142, e142, hx142_0⟩ := Kd.at_string HR0.out x8_1 p142 q142; obtain rfl : ad137 = ad142 := (by injection e142); replace hx142_0 := (HB.out.cell (World.block_lt_of_cell? w _ hx142_0)).trans hx142_0; replace p142 := eq_true p142; replace q142 := eq_true q142))
       go_roundg k1
       case measure => have := HK1.out; omega
       case rel => exact ⟨(y139), (wrap64 (t138 + ((rdOf ByteArray.empty l0 x8_1).size : Int))), (wrap64 (x8_1 + 1)), (by first | rfl | (simp; done) | (simp [*]; done)), (by first | rfl | (simp; done) | (simp [*]; done)), H', ⟨by have := HK1.out; omega⟩, ⟨by (with_reducible repeat (first | apply Kd.R_alloc | apply Kd.R_drewN | apply Kd.R_drew)); exact HO141.out⟩, ⟨by repeat (first | (with_reducible first | exact HB.out | apply below_alloc | apply pw_below_drewN | apply below_drew1) | exact HB.out)⟩⟩
      ·rw [if_neg c7] at H
       exact absurd H (by simp)
    ·rw [if_neg c4] at H
     exact absurd H (by simp)
   ·rw [if_neg c3] at H
    have c3b0 : decide (x8_1 < (l0.length : Int)) = false := decide_eq_false c3
    clear c3
    simp only [Option.some.injEq, Prod.mk.injEq] at H
    obtain ⟨rfl, rfl⟩ := H
    go_wp2
    go_ret2
    exact ⟨_, by first | rfl | (simp [errW_none, errW_some] <;> rfl) | (simp [*, errW_none, errW_some] <;> rfl), by (with_reducible repeat (first | apply Kd.R_alloc | apply Kd.R_drewN | apply Kd.R_drew)); exact HO_6.out, by repeat (first | (with_reducible first | exact HB.out | apply below_alloc | apply pw_below_drewN | apply below_drew1) | exact HB.out)⟩

end Go.Proofs.Ytbbgnapepkenaaa.E
