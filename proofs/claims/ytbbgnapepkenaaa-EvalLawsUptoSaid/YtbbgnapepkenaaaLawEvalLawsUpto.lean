/- EvalLaws, the second form: for arguments of 1048576 values and letters at most the law returns true, and leaves its arguments as they were. (The row, turned out of the printed one.) -/
import Derived.Test.YtbbgnapepkenaaaRows
import Derived.Test.YtbbgnapepkenaaaOpens
import Derived.Test.YtbbgnapepkenaaaE8
import Derived.Test.YtbbgnapepkenaaaPureEvalLaws
import Derived.WalkKit
import Derived.ProofKit
import Derived.OpenShut
import Derived.ShutString
import Derived.ChangeOld
import Derived.Below
import Derived.SizedLaws
import Derived.HandedShaped
import Derived.Shelf.Vars
import Derived.Deep.DeepHandedRow
import Derived.JoinedCond
import Derived.MakeChecks
namespace Go.Proofs.Ytbbgnapepkenaaa.evalLaws
open Go.ChangeShapes Go.WideShapes Go.ChangeAt Go.RowKit Go.Proofs.Ytbbgnapepkenaaa.Opens Go.Proofs.Ytbbgnapepkenaaa.E Go.Proofs.YtbbgnapepkenaaaW.PrintWords
open Go.ChangeMaps (open_string shut_string)
set_option linter.unusedVariables false
theorem own : ownKnob Try.prog.godebug = none := by kernel_rfl
theorem laidOut : laidOutB Try.prog = true := by kernel_rfl
theorem laid_none {P : Program} {w : World} : laidMetH P [] w := by
  rw [MakeChecks.laidMetH_plain _ _ _ (by rfl)]
  exact ⟨[], rfl, List.nodup_nil, fun _ _ h => by cases h⟩
theorem reads (os : Os) {H : Type} (enc : TypeId × Value → H) : ∃ places, DataW.whole enc Try.prog ((World.holding Try.prog os ⟨#[], #[], []⟩).forCall (fun _ _ => 0) ⟨#[], #[.agg #[.int .i64 0, .slice none 0 0, .slice none 0 0], .agg #[.int .i64 0, .slice none 0 0, .slice none 0 0], .string ByteArray.empty, .string ByteArray.empty], []⟩).memory Try.f9.params.toList Rows.evalLawsSpec.vars false (#[.agg #[.int .i64 0, .slice none 0 0, .slice none 0 0], .agg #[.int .i64 0, .slice none 0 0, .slice none 0 0], .string ByteArray.empty, .string ByteArray.empty] : Array Value).toList 8 = some ([.agg [.lit (.int .i64 0), .nil, .nil], .agg [.lit (.int .i64 0), .nil, .nil], .lit (.string []), .lit (.string [])], [], places) :=
  ⟨[], by kernel_rfl⟩
set_option maxRecDepth 100000 in
set_option maxHeartbeats 1000000 in
theorem lifted (os : Os) (started : os.Started) (H : Type) (enc : TypeId × Value → H) (F : Stop.Interp) :
    ReturnsInHanded {} Try.checked os 9 .any ((Rows.OpenSpec.upto Rows.evalLawsSpec).preRow enc Try.prog Try.f9 Rows.evalLawsUptoRow.domain false Rows.evalLawsUptoRow.laid) (((Rows.OpenSpec.upto Rows.evalLawsSpec).at F).post enc Try.prog Try.f9 false true false false) := by
  obtain ⟨places, hx⟩ := reads os enc
  refine returnsInHanded_of_row (C := Try.checked) (s := Rows.OpenSpec.upto Rows.evalLawsSpec) own started (by kernel_rfl) Try.func9
    (witness_row_at (enc := enc) (C := Try.checked) false (World.holding Try.prog os ⟨#[], #[], []⟩) _ rfl (by kernel_rfl) (by kernel_rfl) (by kernel_rfl)
      (OpenSpec.preRow_of_cond 8 hx (by kernel_rfl) (fun k hk => by cases hk; kernel_rfl) (by kernel_rfl) laid_none)) ?_
  intro W base args ds gs before hval0 hW hcnd hcond hsz0 _ hsh _
  have hbulk : Rows.uptoBulkAll (ds ++ gs) ≤ 1048576 := of_decide_eq_true (hcond _ rfl)
  have hsz : (DataW.weightsEach Try.prog (Try.f9.params.toList ++ Rows.evalLawsSpec.plain.varTypes Try.prog) (ds ++ gs)).all (· ≤ reachBytes) = true := hsz0
  have hval : ∀ (j : Nat) t v, Try.f9.params[j]? = some t → args[j]? = some v → Value.okWide Try.prog W .any base t v := hval0
  have hW' := hW
  obtain ⟨p, q, hA0, hV, rfl, hfz, hnd⟩ := hW
  have hA : DataW.TrodAll enc Try.prog W 0 (fun _ => true) true Try.f9.params.toList args.toList ds p := hA0
  rw [Try.params9] at hA hval hsz
  have hG : GlobOk W := (Go.Proofs.cell_of_shapedOpen_int (P := Try.prog) (g := 0) (t := 3) (zero := #[.int .i64 0]) hsh (of_decide_eq_true (by kernel_rfl)) (by kernel_rfl) rfl (by kernel_rfl) (by kernel_rfl) Try.underlying3)
  obtain ⟨v0, vs0, d0, ds0, p0, q0, hargs, rfl, rfl, h0, r0⟩ := trodAll_cons hA
  obtain ⟨v1, vs1, d1, ds1, p1, q1, rfl, rfl, rfl, h1, r1⟩ := trodAll_cons r0
  obtain ⟨v2, vs2, d2, ds2, p2, q2, rfl, rfl, rfl, h2, r2⟩ := trodAll_cons r1
  obtain ⟨v3, vs3, d3, ds3, p3, q3, rfl, rfl, rfl, h3, r3⟩ := trodAll_cons r2
  obtain ⟨rfl, rfl, rfl⟩ := trodAll_nil r3
  obtain rfl : args = #[v0, v1, v2, v3] := by cases args; simp_all
  obtain ⟨rfl, rfl⟩ := trodVars_none hV
  have k0 := h0
  have lt0 : ∀ x ∈ p0, x.block < W.heap.size := by obtain ⟨m, hm⟩ := k0; exact DataW.trod_lt m _ _ _ hm
  obtain ⟨x0, cs0, rfl, hk0, g0⟩  := Opens.open_value Try.underlying40 (hval 0 40 v0 rfl rfl) (fun m => (opens_T40 m)) h0 (sized_arg hsz (j := 0) (u := 40) rfl rfl)
  obtain ⟨A0_1, c0_1, A0_2, c0_2, hq0, hc0_1, hr0_1, hc0_2, hr0_2⟩ := k40_open hk0
  obtain rfl : cs0 = #[.int .i64 x0.f0, .slice A0_1 x0.f1.length c0_1, .slice A0_2 x0.f2.length c0_2] := by cases cs0; simpa using hq0
  have k1 := h1
  have lt1 : ∀ x ∈ p1, x.block < W.heap.size := by obtain ⟨m, hm⟩ := k1; exact DataW.trod_lt m _ _ _ hm
  obtain ⟨x1, cs1, rfl, hk1, g1⟩  := Opens.open_value Try.underlying40 (hval 1 40 v1 rfl rfl) (fun m => (opens_T40 m)) h1 (sized_arg hsz (j := 1) (u := 40) rfl rfl)
  obtain ⟨A1_1, c1_1, A1_2, c1_2, hq1, hc1_1, hr1_1, hc1_2, hr1_2⟩ := k40_open hk1
  obtain rfl : cs1 = #[.int .i64 x1.f0, .slice A1_1 x1.f1.length c1_1, .slice A1_2 x1.f2.length c1_2] := by cases cs1; simpa using hq1
  obtain ⟨a2, rfl, rfl, rfl, y2⟩ := open_string Try.underlying9 (hval 2 9 v2 rfl rfl) h2
  have w2 : a2.size ≤ 140737488351232 := by
    have z := sized_string hsz (j := 2) (t := 9) rfl rfl
    rw [Array.length_toList] at z
    exact z
  obtain ⟨a3, rfl, rfl, rfl, y3⟩ := open_string Try.underlying9 (hval 3 9 v3 rfl rfl) h3
  have w3 : a3.size ≤ 140737488351232 := by
    have z := sized_string hsz (j := 3) (t := 9) rfl rfl
    rw [Array.length_toList] at z
    exact z
  have hb := hbulk
  simp only [List.append_nil, List.cons_append, List.nil_append, Rows.uptoBulkAll, Rows.uptoBulk, data_length] at hb
  have b2 : a2.size ≤ 1048576 := by omega
  have b3 : a3.size ≤ 1048576 := by omega
  clear hb
  clear hA0 hval0 hsz0 hsz hbulk hcond
  obtain ⟨k, h⟩ := Pure.EvalLaws x0 x1 a2 a3 b2 b3 g0 g1
  refine (verbatimlaw20_EvalLaws.calls k x0.f0 (fun _ => True) A0_1 c0_1 x0.f1 (fun _ => True) A0_2 c0_2 x0.f2 x1.f0 (fun _ => True) A1_1 c1_1 x1.f1 (fun _ => True) A1_2 c1_2 x1.f2 a2 a3 true W hG (V_came Kd.heap_string hc0_1 hr0_1) (V_came k40_heap hc0_2 hr0_2) (V_came Kd.heap_string hc1_1 hr1_1) (V_came k40_heap hc1_2 hr1_2) h).mono fun e W' ⟨he, bel0⟩ => ?_
  have bel : Below W.heap.size W W' := bel0
  subst he
  exact ⟨_, rfl, _, _, _, [], _, [], hW', trodAll_mk1 (shut_bool Try.underlying4 _), (trodAll_cons_mk (Below.trod laidOut (by kernel_rfl) (of_decide_eq_true (by kernel_rfl)) k0 bel lt0) (trodAll_cons_mk (Below.trod laidOut (by kernel_rfl) (of_decide_eq_true (by kernel_rfl)) k1 bel lt1) (trodAll_cons_mk (shut_string Try.underlying9 y2) (trodAll_cons_mk (shut_string Try.underlying9 y3) trodAll_mk0)))), rfl, bel.frame _, fun h => by cases h⟩
theorem over : Rows.evalLawsUptoRow.holds Try.pinned (Rows.OpenSpec.upto Rows.evalLawsSpec) :=
  OpenClaim.holds_of_cond 9 Try.f9 rfl rfl rfl rfl rfl rfl rfl ⟨rfl, rfl, rfl, rfl, rfl⟩ rfl rfl rfl rfl rfl (by kernel_rfl) Try.func9 (by kernel_rfl)
    (of_decide_eq_true (by kernel_rfl)) (by unfold Func.isWrapper; first | (rw [if_pos (by decide +kernel)]; kernel_rfl) | (rw [if_neg (by decide +kernel)]; exact ⟨rfl, rfl⟩))
    (fun os started H enc _ F => by rw [OpenClaim.pre_eq_preRow]; exact lifted os started H enc F)
theorem proved : Rows.EvalLawsUptoSaid := over
#print axioms proved
end Go.Proofs.Ytbbgnapepkenaaa.evalLaws
namespace Go.Proofs.Ytbbgnapepkenaaa
/-- The row, under a short name, for the claim. -/
theorem evalLawsUpto_holds : Rows.EvalLawsUptoSaid := evalLaws.proved
end Go.Proofs.Ytbbgnapepkenaaa
