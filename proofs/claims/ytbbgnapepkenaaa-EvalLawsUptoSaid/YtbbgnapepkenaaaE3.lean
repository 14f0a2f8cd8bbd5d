-- Written for this claim by a program of this session (over the kit's print tool): functions as Lean functions, their contracts, rows. Lean checks it.
import Derived.Test.YtbbgnapepkenaaaE0
import Derived.Test.YtbbgnapepkenaaaE2
namespace Go.Proofs.Ytbbgnapepkenaaa.E
open Go.RowKit Go.Proofs.YtbbgnapepkenaaaW.PrintWords Go.Proofs.YtbbgnapepkenaaaW.PrintLast Go.Proofs.YtbbgnapepkenaaaW.PrintMore
attribute [local go_sem] max2_int min2_int max_two min_two max_three min_three max_four min_four   -- for this text's walks alone
set_option linter.unusedVariables false
set_option linter.unusedSimpArgs false

/-! ### eval_match: function 33 -/
/-- A call of a function value, in a plain region. -/
theorem goesV_ {P : Program} {ops : Array Oper} {Q : Exit → Act → World → Prop} {rest : List Oper} {oi : Oper} {a : Act} {w : World} (N : Option Tmp) (hd : oi.dst = N) (hg : oi.guard = none) {o : Operand} {f : FuncId} {cap : Array Value} {ys : Array Operand} {ts : Array TypeId} (args : Array Value)
  (he : ∀ args w, (callFunc f args).run P w = .ok (.enter f args) w) (hop : oi.op = .call { callee := .value o, args := ys, argTypes := ts }) (hv : a.eval o = .func (.func f) #[] cap) (hargs : ys.map a.eval = args)
  (h : Calls P f (args ++ cap) w fun e w' => ∃ v, e = .returned v ∧ wpList P ops Q rest (a.put N v) w') : wpList P ops Q (oi :: rest) a w := by
 refine wpList_plain hg fun K hK => ?_
 have he := he (args ++ cap) w
 have hrun : (execOp a.eval oi).run P w = .ok (.enter f (args ++ cap)) w := by
  unfold execOp
  simp [hop, resolve, Deferred.ofValue, invoke, hv, hargs, he]
 unfold Oper.wp
 rw [hrun, Oper.upon_enter]
 refine h.mono fun e w'' hh => ?_
 obtain ⟨v, rfl, hk⟩ := hh
 subst hd
 exact hK _ _ hk
/-- The operation is a call of what lies in this place. -/
theorem gate_value {P : Program} {ops : Array Oper} {Q : Exit → Act → World → Prop} {rest : List Oper} {o : Oper} {a : Act} {W : World} (n : Tmp) {ys : Array Operand} {ts : Array TypeId} (_ho : o.op = .call { callee := .value (.tmp n), args := ys, argTypes := ts }) (h : wpList P ops Q (o :: rest) a W) : wpList P ops Q (o :: rest) a W := h
/-- What a function value does with an element, in each world behind this one. -/
def Does (w : World) (m : FuncId) (cap : Array Value) (p : (S40) → Option Bool) : Prop :=
 ∀ (q : (S40)) (A1 : Option Addr) (c1 : Nat) (A2 : Option Addr) (c2 : Nat) (b : Bool) (W : World), GlobOk W → Kd.C Kd.string W A1 q.f1.length q.f1 → q.f1.length ≤ c1 → Kd.C k40 W A2 q.f2.length q.f2 → q.f2.length ≤ c2 → Below w.heap.size w W → p q = some b →
  Calls Try.prog m (#[.agg #[.int .i64 q.f0, .slice A1 q.f1.length c1, .slice A2 q.f2.length c2]] ++ cap) W fun e w' => e = .returned (.bool b) ∧ Below W.heap.size W w'
def eval_match.i0 (p : (S40) → Option Bool) : Nat → List (S40) → Int → Int → Option (Int)
 | 0, _, _, _ => none
 | k + 1, x0, x7, x8 => if x8 < x7 then (if 0 ≤ x8 then (if x8 < (x0.length : Int) then ((p (rd_T40 x0 x8)).bind fun t110 => (if t110 = true then (some x8) else (eval_match.i0 p k x0 x7 (wrap64 (x8 + 1))))) else (none)) else (none)) else (some (-1))
def eval_match.an (p : (S40) → Option Bool) (k : Nat) (l0 : List (S40)) : Option (Bool) := (eval_match.i0 p k l0 (l0.length : Int) 0).bind fun t111 => (some (decide (t111 ≥ 0)))
theorem eval_match.i0_mono {p p' : (S40) → Option Bool} (hp : ∀ q, LeO (p q) (p' q)) : ∀ k y0 y1 y2, LeO (eval_match.i0 p k y0 y1 y2) (eval_match.i0 p' (k + 1) y0 y1 y2)
 | 0 => fun _ _ _ r h => by simp [eval_match.i0] at h
 | k + 1 => by
  have ih0 := eval_match.i0_mono hp k
  intro y0 y1 y2
  unfold eval_match.i0
  refine LeO.ite (LeO.ite (LeO.ite (LeO.bind (hp _) (fun _ => LeO.ite (LeO.refl _) (ih0 _ _ _))) (LeO.refl _)) (LeO.refl _)) (LeO.refl _)
theorem eval_match.an_mono {p p' : (S40) → Option Bool} (hp : ∀ q, LeO (p q) (p' q)) (k : Nat) (l : List (S40)) : LeO (eval_match.an p k l) (eval_match.an p' (k + 1) l) := LeO.bind (eval_match.i0_mono hp k _ _ _) (fun _ => LeO.refl _)
set_option maxHeartbeats 8000000 in
set_option maxRecDepth 100000 in
theorem eval_match.idx (p : (S40) → Option Bool) (m : FuncId) (cap : Array Value) (hE : ∀ args w, (callFunc m args).run Try.prog w = .ok (.enter m args) w) (k : Nat) (A0 : Option Addr) (c0 : Nat) (l0 : List (S40)) (r : Int) (w : World) (hF : Does w m cap p) (hG : GlobOk w) (hr0 : Kd.C k40 w A0 l0.length l0) (hc0 : l0.length ≤ c0) (h : eval_match.i0 p k l0 (l0.length : Int) 0 = some r) :
  Calls Try.prog 47 #[.slice A0 l0.length c0, .func (.func m) #[] cap] w fun e w' => e = .returned (.int .i64 r) ∧ Below w.heap.size w w' := by
 have hu40 := Try.underlying40
 have HG := am hG
 clear hG
 have HF := am hF
 clear hF
 have HE := am hE
 clear hE
 have HR0 := am hr0
 have HC0 := am hc0
 clear hr0 hc0
 have HB := am (Below.refl w.heap.size w)
 have H : (eval_match.i0 p k l0 (l0.length : Int) 0) = some r := h
 clear h
 have H' := am H
 clear H
 go_enter Try.func47, Try.ntmps47
 go_wp2
 go_loopg [8] k (fun kq v8 w' => ∃ (x8_1 : Int), v8 = .int .i64 x8_1 ∧ Aside0 (eval_match.i0 p kq l0 (l0.length : Int) x8_1 = some r) ∧ Aside0 (kq ≤ k) ∧ Aside0 (Below w.heap.size w w'))
 case atStart => exact ⟨(0), (by first | rfl | (simp; done) | (simp [*]; done)), H', ⟨Nat.le_refl _⟩, ⟨by repeat (first | (with_reducible first | exact HB.out | apply below_alloc | apply pw_below_drewN | apply below_drew1) | exact HB.out)⟩⟩
 case round =>
  clear H'
  try clear p2
  obtain ⟨x8_1, rfl, HA, HK1, HB⟩ := hrel
  cases gk with
  | zero => exact absurd HA.out (by simp [eval_match.i0])
  | succ k1 =>
   have H := HA.out
   clear HA
   simp only [eval_match.i0] at H
   by_cases c3 : x8_1 < (l0.length : Int)
   ·rw [if_pos c3] at H
    have c3b0 : decide (x8_1 < (l0.length : Int)) = true := decide_eq_true c3
    clear c3
    by_cases c4 : 0 ≤ x8_1
    ·rw [if_pos c4] at H
     have c4b0 : decide (0 ≤ x8_1) = true := decide_eq_true c4
     clear c4
     by_cases c5 : x8_1 < (l0.length : Int)
     ·rw [if_pos c5] at H
      have c5b0 : decide (x8_1 < (l0.length : Int)) = true := decide_eq_true c5
      clear c5
      replace H := Option.bind_eq_some_iff.mp H
      obtain ⟨t110, A60, H⟩ := H
      replace H : (if t110 = true then (some x8_1) else (eval_match.i0 p k1 l0 (l0.length : Int) (wrap64 (x8_1 + 1)))) = some r := H
      have A6 := am A60
      clear A60
      by_cases c7 : t110 = true
      ·subst c7
       have H1 : (some x8_1) = some r := by rw [if_pos rfl] at H; exact H
       clear H
       have H := H1
       clear H1
       obtain rfl := Option.some.inj H
       have p109 : 0 ≤ (x8_1 : Int) := of_decide_eq_true (by first | (with_reducible assumption) | assumption)
       have q109 : x8_1 < (l0.length : Int) := of_decide_eq_true (by first | (with_reducible assumption) | assumption)
       obtain ⟨ad109, A109_1, c109_1, A109_2, c109_2, e109, hx109_0, hx109_1, hx109_2, hl109_1, hi109_1, hl109_2, hi109_2⟩ := at_T40 HR0.out x8_1 p109 q109
       cases e109
       replace hx109_0 := (HB.out.cell (World.block_lt_of_cell? w _ hx109_0)).trans hx109_0
       replace hx109_1 := (HB.out.cell (World.block_lt_of_cell? w _ hx109_1)).trans hx109_1
       replace hx109_2 := (HB.out.cell (World.block_lt_of_cell? w _ hx109_2)).trans hx109_2
       have HR109_1 := am hi109_1
       have HC109_1 := am hl109_1
       clear hi109_1 hl109_1
       have HR109_2 := am hi109_2
       have HC109_2 := am hl109_2
       clear hi109_2 hl109_2
       replace p109 := eq_true p109
       replace q109 := eq_true q109
       go_wp2_with (first | ((with_reducible refine gate_value 11 rfl ?_); refine goesV_ (some 16) rfl rfl (f := m) (cap := cap) #[.agg #[.int .i64 ((rd_T40 l0 x8_1).f0), .slice A109_1 ((rd_T40 l0 x8_1).f1).length c109_1, .slice A109_2 ((rd_T40 l0 x8_1).f2).length c109_2]] HE.out rfl rfl (by (try simp only [List.map_toArray, List.map_cons, List.map_nil]); first | done | rfl) ?_; (refine (HF.out (rd_T40 l0 x8_1) _ _ _ _ true _ ?side1 ?side2 ?side3 ?side4 ?side5 HB.out A6.out).mono ?_); (case side1 => first | exact GlobOk.below HG.out (lU HB.out) | (repeat (first | exact HG.out | (with_reducible refine GlobOk.alloc ?_ _) | (with_reducible refine GlobOk.drewN ?_ _) | (with_reducible refine GlobOk.drew ?_)))); (case side2 => repeat (first | exact (Kd.C_below HR109_1.out HB.out) | (with_reducible refine Kd.C_alloc ?_ _) | (with_reducible refine Kd.C_drewN ?_ _) | (with_reducible refine Kd.C_drew ?_))); (case side3 => exact HC109_1.out); (case side4 => repeat (first | exact (Kd.C_below HR109_2.out HB.out) | (with_reducible refine Kd.C_alloc ?_ _) | (with_reducible refine Kd.C_drewN ?_ _) | (with_reducible refine Kd.C_drew ?_))); (case side5 => exact HC109_2.out); rintro e w8 ⟨rfl, hb⟩; refine ⟨_, rfl, ?_⟩; replace HB := am (below_step (lU HB.out) hb); (try clear hb); (try clear hb2); (try clear hk); (try clear hi)))
       go_ret
       exact ⟨by first | rfl | (simp [errW_none, errW_some] <;> rfl) | (simp [*, errW_none, errW_some] <;> rfl), by repeat (first | (with_reducible first | exact HB.out | apply below_alloc | apply pw_below_drewN | apply below_drew1) | exact HB.out)⟩
      ·replace c7 := Bool.eq_false_iff.mpr c7
       subst c7
       have H1 : (eval_match.i0 p k1 l0 (l0.length : Int) (wrap64 (x8_1 + 1))) = some r := by rw [if_neg (show ¬ (false = true) by decide)] at H; exact H
       clear H
       have H := H1
       clear H1
       have H' := am H
       clear H
       have p109 : 0 ≤ (x8_1 : Int) := of_decide_eq_true (by first | (with_reducible assumption) | assumption)
       have q109 : x8_1 < (l0.length : Int) := of_decide_eq_true (by first | (with_reducible assumption) | assumption)
       obtain ⟨ad109, A109_1, c109_1, A109_2, c109_2, e109, hx109_0, hx109_1, hx109_2, hl109_1, hi109_1, hl109_2, hi109_2⟩ := at_T40 HR0.out x8_1 p109 q109
       cases e109
       replace hx109_0 := (HB.out.cell (World.block_lt_of_cell? w _ hx109_0)).trans hx109_0
       replace hx109_1 := (HB.out.cell (World.block_lt_of_cell? w _ hx109_1)).trans hx109_1
       replace hx109_2 := (HB.out.cell (World.block_lt_of_cell? w _ hx109_2)).trans hx109_2
       have HR109_1 := am hi109_1
       have HC109_1 := am hl109_1
       clear hi109_1 hl109_1
       have HR109_2 := am hi109_2
       have HC109_2 := am hl109_2
       clear hi109_2 hl109_2
       replace p109 := eq_true p109
       replace q109 := eq_true q109
       go_wp2_with (first | ((with_reducible refine gate_value 11 rfl ?_); refine goesV_ (some 16) rfl rfl (f := m) (cap := cap) #[.agg #[.int .i64 ((rd_T40 l0 x8_1).f0), .slice A109_1 ((rd_T40 l0 x8_1).f1).length c109_1, .slice A109_2 ((rd_T40 l0 x8_1).f2).length c109_2]] HE.out rfl rfl (by (try simp only [List.map_toArray, List.map_cons, List.map_nil]); first | done | rfl) ?_; (refine (HF.out (rd_T40 l0 x8_1) _ _ _ _ false _ ?side1 ?side2 ?side3 ?side4 ?side5 HB.out A6.out).mono ?_); (case side1 => first | exact GlobOk.below HG.out (lU HB.out) | (repeat (first | exact HG.out | (with_reducible refine GlobOk.alloc ?_ _) | (with_reducible refine GlobOk.drewN ?_ _) | (with_reducible refine GlobOk.drew ?_)))); (case side2 => repeat (first | exact (Kd.C_below HR109_1.out HB.out) | (with_reducible refine Kd.C_alloc ?_ _) | (with_reducible refine Kd.C_drewN ?_ _) | (with_reducible refine Kd.C_drew ?_))); (case side3 => exact HC109_1.out); (case side4 => repeat (first | exact (Kd.C_below HR109_2.out HB.out) | (with_reducible refine Kd.C_alloc ?_ _) | (with_reducible refine Kd.C_drewN ?_ _) | (with_reducible refine Kd.C_drew ?_))); (case side5 => exact HC109_2.out); rintro e w9 ⟨rfl, hb⟩; refine ⟨_, rfl, ?_⟩; replace HB := am (below_step (lU HB.out) hb); (try clear hb); (try clear hb2); (try clear hk); (try clear hi)))
       go_roundg k1
       case measure => have := HK1.out; omega
       case rel => exact ⟨(wrap64 (x8_1 + 1)), (by first | rfl | (simp; done) | (simp [*]; done)), H', ⟨by have := HK1.out; omega⟩, ⟨by repeat (first | (with_reducible first | exact HB.out | apply below_alloc | apply pw_below_drewN | apply below_drew1) | exact HB.out)⟩⟩
     ·rw [if_neg c5] at H
      exact absurd H (by simp)
    ·rw [if_neg c4] at H
     exact absurd H (by simp)
   ·rw [if_neg c3] at H
    have c3b0 : decide (x8_1 < (l0.length : Int)) = false := decide_eq_false c3
    clear c3
    obtain rfl := Option.some.inj H
    go_wp2
    go_ret
    exact ⟨by first | rfl | (simp [errW_none, errW_some] <;> rfl) | (simp [*, errW_none, errW_some] <;> rfl), by repeat (first | (with_reducible first | exact HB.out | apply below_alloc | apply pw_below_drewN | apply below_drew1) | exact HB.out)⟩
theorem eval_match.anw (p : (S40) → Option Bool) (m : FuncId) (cap : Array Value) (hE : ∀ args w, (callFunc m args).run Try.prog w = .ok (.enter m args) w) (k : Nat) (A0 : Option Addr) (c0 : Nat) (l0 : List (S40)) (r : Bool) (w : World) (hF : Does w m cap p) (hG : GlobOk w) (hr0 : Kd.C k40 w A0 l0.length l0) (hc0 : l0.length ≤ c0) (h : eval_match.an p k l0 = some r) :
  Calls Try.prog 40 #[.slice A0 l0.length c0, .func (.func m) #[] cap] w fun e w' => e = .returned (.bool r) ∧ Below w.heap.size w w' := by
 obtain ⟨t111, A3, H⟩ := Option.bind_eq_some_iff.mp h
 obtain rfl := Option.some.inj H
 have HH := am (eval_match.idx p m cap hE k A0 c0 l0 t111 w hF hG hr0 hc0 A3)
 clear hF hE hr0 hc0 hG h A3 H
 go_enter Try.func40, Try.ntmps40
 go_wp2_with (first | ((with_reducible refine gate_callee (f := 47) rfl ?_); refine goesL_ (some 7) rfl rfl Try.func47 (by kernel_rfl) rfl #[.slice A0 l0.length c0, .func (.func m) #[] cap] rfl (by (try simp only [List.map_toArray, List.map_cons, List.map_nil]); first | done | rfl) ?_; (refine HH.out.mono ?_); rintro e w4 ⟨rfl, hb⟩; refine ⟨_, rfl, ?_⟩; have HB := am hb; clear hb))
 go_ret
 exact ⟨by first | rfl | (simp [errW_none, errW_some] <;> rfl) | (simp [*, errW_none, errW_some] <;> rfl), HB.out⟩
theorem goesO_ {P : Program} {ops : Array Oper} {Q : Exit → Act → World → Prop} {oi : Oper} {N : Option Tmp} {a : Act} {w : World} {K : Act → World → Prop} {o : Operand} {f : FuncId} {cap : Array Value} {ys : Array Operand} {ts : Array TypeId} (args : Array Value)
  (he : ∀ args w, (callFunc f args).run P w = .ok (.enter f args) w) (hw : Region.wanted oi (yielded ops a.tmps) = true) (hN : oi.dst = N) (hop : oi.op = .call { callee := .value o, args := ys, argTypes := ts }) (hv : a.eval o = .func (.func f) #[] cap) (hargs : ys.map a.eval = args)
  (h : Calls P f (args ++ cap) w fun e w' => ∃ v, e = .returned v ∧ K (a.put N v) w') : if Region.wanted oi (yielded ops a.tmps) = true then Oper.wp P oi a w K Q else K (a.put N undef) w := by
 refine call_ f (args ++ cap) hw hN ?_ h
 have he := he (args ++ cap) w
 unfold execOp
 simp [hop, resolve, Deferred.ofValue, invoke, hv, hargs, he]
def eval_match.f : Nat → Int → List ByteArray → List (S40) → ByteArray → Int → Option Bool
 | 0, _, _, _, _, _ => none
 | k + 1, a0_0, l0_1, l0_2, a1, a2 => if a2 > 300 then (some false) else (if a0_0 = 1 then (if (l0_1.length : Int) > 0 then (if 0 < (l0_1.length : Int) then ((strings_Contains.f a1 (rdOf ByteArray.empty l0_1 0)).bind fun t114 => (some t114)) else (none)) else (some false)) else (if a0_0 = 2 then (if (l0_1.length : Int) > 0 then (if 0 < (l0_1.length : Int) then ((strings_HasPrefix.f a1 (rdOf ByteArray.empty l0_1 0)).bind fun t116 => (some t116)) else (none)) else (some false)) else (if a0_0 = 3 then ((eval_Find.f k l0_1 a1).bind fun bt117 => (some bt117.2)) else (if a0_0 = 4 then ((eval_match.an (fun q => (eval_match.f k q.f0 q.f1 q.f2 a1 (wrap64 (a2 + 1))).bind fun b => some (!b)) k l0_2).bind fun t121 => (some (!t121))) else (if a0_0 = 5 then ((eval_match.an (fun q => eval_match.f k q.f0 q.f1 q.f2 a1 (wrap64 (a2 + 1))) k l0_2).bind fun t122 => (some t122)) else (if a0_0 = 6 then (if (l0_2.length : Int) > 0 then (if 0 < (l0_2.length : Int) then ((eval_match.f k (rd_T40 l0_2 0).f0 (rd_T40 l0_2 0).f1 (rd_T40 l0_2 0).f2 a1 (wrap64 (a2 + 1))).bind fun t124 => (some (!t124))) else (none)) else (some false)) else (some (a0_0 == 7))))))))
theorem eval_match.mono : ∀ a0 a1 a2 a3 a4 k, LeO (eval_match.f k a0 a1 a2 a3 a4) (eval_match.f (k + 1) a0 a1 a2 a3 a4) := by
 intro a0 a1 a2 a3 a4 k
 induction k generalizing a0 a1 a2 a3 a4 with
 | zero => exact fun r h => by simp [eval_match.f] at h
 | succ k ih =>
  have e1 := eval_match.an_mono (p := fun q => eval_match.f k q.f0 q.f1 q.f2 a3 (wrap64 (a4 + 1))) (p' := fun q => eval_match.f (k + 1) q.f0 q.f1 q.f2 a3 (wrap64 (a4 + 1))) (fun q => ih _ _ _ _ _) k a2
  have e2 := eval_match.an_mono (p := fun q => (eval_match.f k q.f0 q.f1 q.f2 a3 (wrap64 (a4 + 1))).bind fun b => some (!b)) (p' := fun q => (eval_match.f (k + 1) q.f0 q.f1 q.f2 a3 (wrap64 (a4 + 1))).bind fun b => some (!b)) (fun q => LeO.bind (ih _ _ _ _ _) (fun _ => LeO.refl _)) k a2
  rw [eval_match.f, eval_match.f]
  exact LeO.ite (LeO.refl _) (LeO.ite (LeO.refl _) (LeO.ite (LeO.refl _) (LeO.ite (LeO.bind (eval_Find.mono _ _ _) (fun _ => LeO.refl _)) (LeO.ite (LeO.bind e2 (fun _ => LeO.refl _)) (LeO.ite (LeO.bind e1 (fun _ => LeO.refl _)) (LeO.ite (LeO.ite (LeO.ite (LeO.bind (ih _ _ _ _ _) (fun _ => LeO.refl _)) (LeO.refl _)) (LeO.refl _)) (LeO.refl _)))))))
/-- What the function does with so many rounds. -/
def eval_match.Ok (k : Nat) : Prop := ∀ (a0_0 : Int) (A0_1 : Option Addr) (c0_1 : Nat) (l0_1 : List ByteArray) (A0_2 : Option Addr) (c0_2 : Nat) (l0_2 : List (S40)) (a1 : ByteArray) (a2 : Int) (r : Bool) (w : World) (hG : GlobOk w) (hr0_1 : Kd.C Kd.string w A0_1 l0_1.length l0_1) (hc0_1 : l0_1.length ≤ c0_1) (hr0_2 : Kd.C k40 w A0_2 l0_2.length l0_2) (hc0_2 : l0_2.length ≤ c0_2) (h : eval_match.f k a0_0 l0_1 l0_2 a1 a2 = some r),
  Calls Try.prog 33 #[.agg #[.int .i64 a0_0, .slice A0_1 l0_1.length c0_1, .slice A0_2 l0_2.length c0_2], .string a1, .int .i64 a2] w fun e w' => e = .returned (.bool r) ∧ Below w.heap.size w w'
theorem enters37 : ∀ args w, (callFunc 37 args).run Try.prog w = .ok (.enter 37 args) w := enters_ Try.func37 (by kernel_rfl) rfl
theorem enters41 : ∀ args w, (callFunc 41 args).run Try.prog w = .ok (.enter 41 args) w := enters_ Try.func41 (by kernel_rfl) rfl
set_option maxHeartbeats 4000000 in
set_option maxRecDepth 100000 in
theorem eval_match.kid (k : Nat) (IH : eval_match.Ok k) (a1 : ByteArray) (a2 : Int) (g4 g5 : Nat) (w : World) (h4 : w.cell? ⟨g4, 0, none⟩ = some (.string a1)) (h5 : w.cell? ⟨g5, 0, none⟩ = some (.int .i64 a2)) :
  Does w 37 #[.pointer (some ⟨g4, 0, none⟩), .pointer (some ⟨g5, 0, none⟩)] (fun q => eval_match.f k q.f0 q.f1 q.f2 a1 (wrap64 (a2 + 1))) := by
 intro q A1 c1 A2 c2 b W hG hr1 hc1 hr2 hc2 hB hq
 have hu40 := Try.underlying40
 replace h4 := (hB.cell (World.block_lt_of_cell? w _ h4)).trans h4
 replace h5 := (hB.cell (World.block_lt_of_cell? w _ h5)).trans h5
 have HH : Aside0 (∀ W1, Below W.heap.size W W1 → Calls Try.prog 33 #[.agg #[.int .i64 q.f0, .slice A1 q.f1.length c1, .slice A2 q.f2.length c2], .string a1, .int .i64 (wrap64 (a2 + 1))] W1 fun e w' => e = .returned (.bool b) ∧ Below W1.heap.size W1 w') :=
  ⟨fun W1 hb => IH _ _ _ _ _ _ _ _ _ _ _ (GlobOk.below hG hb) (Kd.C_below hr1 hb) hc1 (Kd.C_below hr2 hb) hc2 hq⟩
 clear hG hr1 hc1 hr2 hc2 hB hq IH
 show Calls Try.prog 37 #[.agg #[.int .i64 q.f0, .slice A1 q.f1.length c1, .slice A2 q.f2.length c2], .pointer (some ⟨g4, 0, none⟩), .pointer (some ⟨g5, 0, none⟩)] W _
 go_enter Try.func37, Try.ntmps37
 go_wp2_with (first
  | ((with_reducible refine gate_dst (N := 3) rfl ?_); refine box_event ?hg (N := 3) ?hd (cs := #[.int .i64 q.f0, .slice A1 q.f1.length c1, .slice A2 q.f2.length c2]) (t := 40) ?hr ?_; (case hd => rfl); (case hg => rfl); (case hr => first | (go_simp; done) | (go_simp; rfl)); intro g3 hg W3 hbox hb; have HB := am hb; replace h4 := (hb.cell (World.block_lt_of_cell? W _ h4)).trans h4; replace h5 := (hb.cell (World.block_lt_of_cell? W _ h5)).trans h5; have hz0 : W3.cell? ⟨g3, 0, none⟩ = some (.int .i64 q.f0) := (blk_cell hbox 0).trans rfl; have hz1 : W3.cell? ⟨g3, 1, none⟩ = some (.slice A1 q.f1.length c1) := (blk_cell hbox 1).trans rfl; have hz2 : W3.cell? ⟨g3, 2, none⟩ = some (.slice A2 q.f2.length c2) := (blk_cell hbox 2).trans rfl; clear hb hbox hg)
  | ((with_reducible refine gate_callee (f := 33) rfl ?_); refine goesL_ (some 9) rfl rfl Try.func33 (by kernel_rfl) rfl #[.agg #[.int .i64 q.f0, .slice A1 q.f1.length c1, .slice A2 q.f2.length c2], .string a1, .int .i64 (wrap64 (a2 + 1))] rfl (by (try simp only [List.map_toArray, List.map_cons, List.map_nil]); first | done | rfl) ?_; refine (HH.out _ HB.out).mono ?_; rintro e w4 ⟨rfl, hb⟩; refine ⟨_, rfl, ?_⟩; have HB2 := am (below_step HB.out hb); clear hb))
 go_ret
 exact ⟨rfl, HB2.out⟩
set_option maxHeartbeats 4000000 in
set_option maxRecDepth 100000 in
theorem eval_match.notkid (p : (S40) → Option Bool) (cap : Array Value) (g7 : Nat) (w : World) (h7 : w.cell? ⟨g7, 0, none⟩ = some (.func (.func 37) #[] cap)) (hD : Does w 37 cap p) :
  Does w 41 #[.pointer (some ⟨g7, 0, none⟩)] (fun q => (p q).bind fun b => some (!b)) := by
 intro q A1 c1 A2 c2 b W hG hr1 hc1 hr2 hc2 hB hq
 have hu40 := Try.underlying40
 obtain ⟨b0, hq0, hq1⟩ := Option.bind_eq_some_iff.mp hq
 obtain rfl := Option.some.inj hq1
 replace h7 := (hB.cell (World.block_lt_of_cell? w _ h7)).trans h7
 have HH : Aside0 (∀ W1, Below W.heap.size W W1 → Calls Try.prog 37 (#[.agg #[.int .i64 q.f0, .slice A1 q.f1.length c1, .slice A2 q.f2.length c2]] ++ cap) W1 fun e w' => e = .returned (.bool b0) ∧ Below W1.heap.size W1 w') :=
  ⟨fun W1 hb => hD _ _ _ _ _ _ _ (GlobOk.below hG hb) (Kd.C_below hr1 hb) hc1 (Kd.C_below hr2 hb) hc2 (below_step hB hb) hq0⟩
 clear hG hr1 hc1 hr2 hc2 hB hq hq0 hq1 hD
 show Calls Try.prog 41 #[.agg #[.int .i64 q.f0, .slice A1 q.f1.length c1, .slice A2 q.f2.length c2], .pointer (some ⟨g7, 0, none⟩)] W _
 go_enter Try.func41, Try.ntmps41
 go_wp2_with (first
  | ((with_reducible refine gate_dst (N := 2) rfl ?_); refine box_event ?hg (N := 2) ?hd (cs := #[.int .i64 q.f0, .slice A1 q.f1.length c1, .slice A2 q.f2.length c2]) (t := 40) ?hr ?_; (case hd => rfl); (case hg => rfl); (case hr => first | (go_simp; done) | (go_simp; rfl)); intro g3 hg W3 hbox hb; have HB := am hb; replace h7 := (hb.cell (World.block_lt_of_cell? W _ h7)).trans h7; have hz0 : W3.cell? ⟨g3, 0, none⟩ = some (.int .i64 q.f0) := (blk_cell hbox 0).trans rfl; have hz1 : W3.cell? ⟨g3, 1, none⟩ = some (.slice A1 q.f1.length c1) := (blk_cell hbox 1).trans rfl; have hz2 : W3.cell? ⟨g3, 2, none⟩ = some (.slice A2 q.f2.length c2) := (blk_cell hbox 2).trans rfl; clear hb hbox hg)
  | ((with_reducible refine gate_value 4 rfl ?_); refine goesV_ (some 6) rfl rfl (f := 37) (cap := cap) #[.agg #[.int .i64 q.f0, .slice A1 q.f1.length c1, .slice A2 q.f2.length c2]] enters37 rfl rfl (by (try simp only [List.map_toArray, List.map_cons, List.map_nil]); first | done | rfl) ?_; refine (HH.out _ HB.out).mono ?_; rintro e w4 ⟨rfl, hb⟩; refine ⟨_, rfl, ?_⟩; have HB2 := am (below_step HB.out hb); clear hb))
 go_ret
 exact ⟨rfl, HB2.out⟩
def eval_match.T5 : Bool × List (List Nat × List Nat) := (true, [([], []), ([0], [0]), ([1], [1]), ([2], [2]), ([3], [3]), ([4], [4]), ([4], [4]), ([6, 4], [4, 6]), ([7, 4], [4, 7]), ([8, 4], [4, 8]), ([5, 9, 4, 4], [4, 5, 9]), ([4, 10], [4, 10]), ([11, 10, 0, 1, 2, 3, 4, 5, 6, 7, 8, 9, 10, 11], [11])])
def eval_match.B5 : List Nat := [0, 1, 3, 7, 15, 31, 31, 95, 223, 479, 1023, 2047, 4095]
theorem eval_match.tab5 : rtab .any (opsOf Try.f33 5) = eval_match.T5 := by kernel_rfl
theorem eval_match.bits5 : waitsOk eval_match.T5.2 eval_match.B5 = true := by kernel_rfl
def eval_match.T7 : Bool × List (List Nat × List Nat) := (true, [([], []), ([0], [0]), ([1], [1]), ([2], [2]), ([3], [3]), ([4], [4]), ([4], [4]), ([6, 4], [4, 6]), ([7, 4], [4, 7]), ([8, 4], [4, 8]), ([5, 9, 4, 4], [4, 5, 9]), ([4, 10], [4, 10]), ([11, 10, 0, 1, 2, 3, 4, 5, 6, 7, 8, 9, 10, 11], [11])])
def eval_match.B7 : List Nat := [0, 1, 3, 7, 15, 31, 31, 95, 223, 479, 1023, 2047, 4095]
theorem eval_match.tab7 : rtab .any (opsOf Try.f33 7) = eval_match.T7 := by kernel_rfl
theorem eval_match.bits7 : waitsOk eval_match.T7.2 eval_match.B7 = true := by kernel_rfl
def eval_match.T16 : Bool × List (List Nat × List Nat) := (true, [([], []), ([0], [0]), ([1], [1]), ([2], [2]), ([3], [3]), ([4], [4]), ([4], [4]), ([6, 4], [4, 6]), ([7, 4], [4, 7]), ([8, 4], [4, 8]), ([5, 9, 4, 4], [4, 5, 9]), ([10, 4], [4, 10]), ([4, 11], [4, 11]), ([12, 10, 0, 1, 2, 3, 4, 5, 6, 7, 8, 9, 10, 11, 12], [12])])
def eval_match.B16 : List Nat := [0, 1, 3, 7, 15, 31, 31, 95, 223, 479, 1023, 2047, 4095, 8191]
theorem eval_match.tab16 : rtab .any (opsOf Try.f33 16) = eval_match.T16 := by kernel_rfl
theorem eval_match.bits16 : waitsOk eval_match.T16.2 eval_match.B16 = true := by kernel_rfl
set_option maxHeartbeats 8000000 in
set_option maxRecDepth 100000 in
theorem eval_match.step (k : Nat) (IH : eval_match.Ok k) (a0_0 : Int) (A0_1 : Option Addr) (c0_1 : Nat) (l0_1 : List ByteArray) (A0_2 : Option Addr) (c0_2 : Nat) (l0_2 : List (S40)) (a1 : ByteArray) (a2 : Int) (r : Bool) (w : World) (hG : GlobOk w) (hr0_1 : Kd.C Kd.string w A0_1 l0_1.length l0_1) (hc0_1 : l0_1.length ≤ c0_1) (hr0_2 : Kd.C k40 w A0_2 l0_2.length l0_2) (hc0_2 : l0_2.length ≤ c0_2) (h : eval_match.f (k + 1) a0_0 l0_1 l0_2 a1 a2 = some r) :
  Calls Try.prog 33 #[.agg #[.int .i64 a0_0, .slice A0_1 l0_1.length c0_1, .slice A0_2 l0_2.length c0_2], .string a1, .int .i64 a2] w fun e w' => e = .returned (.bool r) ∧ Below w.heap.size w w' := by
 have IHH := am IH
 clear IH
 have hu40 := Try.underlying40
 have HG := am hG
 clear hG
 have HR0_1 := am hr0_1
 have HC0_1 := am hc0_1
 clear hr0_1 hc0_1
 have HR0_2 := am hr0_2
 have HC0_2 := am hc0_2
 clear hr0_2 hc0_2
 have HB := am (Below.refl w.heap.size w)
 have hmf : ∀ (fn : Fn) (first cap : Array Value) (w : World), (Instr.makeFunc fn first cap).run Try.prog w = .ok (.func fn first cap) w := fun _ _ _ _ => rfl
 rw [eval_match.f] at h
 have H := h
 clear h
 by_cases c4 : a2 > 300
 ·rw [if_pos c4] at H
  have c4b0 : decide (300 < a2) = true := decide_eq_true c4
  clear c4
  obtain rfl := Option.some.inj H
  go_enter Try.func33, Try.ntmps33
  go_wp2_with (first
   | ((with_reducible refine gate_dst (N := 3) rfl ?_); refine box_event ?hg (N := 3) ?hd (cs := #[.int .i64 a0_0, .slice A0_1 l0_1.length c0_1, .slice A0_2 l0_2.length c0_2]) (t := 40) ?hr ?_; (case hd => rfl); (case hg => rfl); (case hr => first | (go_simp; done) | (go_simp; rfl)); intro gb112 hg W3 hbox hb; have nb_ := am (below_step HB.out hb); have n_BK112 := am (show w.heap.size ≤ gb112 by rw [hg]; exact below_size HB.out); have BK112 := am hbox; clear HB; have HB := nb_; have GE112 := n_BK112; clear nb_ n_BK112 hb hbox hg)
   | ((with_reducible refine gate_dst (N := 4) rfl ?_); refine box_event ?hg (N := 4) ?hd (cs := #[.string a1]) (t := 9) ?hr ?_; (case hd => rfl); (case hg => rfl); (case hr => first | (go_simp; done) | (go_simp; rfl)); intro g4 hg W4 hbox hb; have nb_ := am (below_step HB.out hb); have n_BK4 := am (show w.heap.size ≤ g4 by rw [hg]; exact below_size HB.out); have m_BK112 := am (blk_below BK112.out hb); clear BK112; have BK112 := m_BK112; clear m_BK112; have BK4 := am hbox; clear HB; have HB := nb_; have GE4 := n_BK4; clear nb_ n_BK4 hb hbox hg)
   | ((with_reducible refine gate_dst (N := 5) rfl ?_); refine box_event ?hg (N := 5) ?hd (cs := #[.int .i64 a2]) (t := 3) ?hr ?_; (case hd => rfl); (case hg => rfl); (case hr => first | (go_simp; done) | (go_simp; rfl)); intro g5 hg W5 hbox hb; have nb_ := am (below_step HB.out hb); have n_BK5 := am (show w.heap.size ≤ g5 by rw [hg]; exact below_size HB.out); have m_BK112 := am (blk_below BK112.out hb); clear BK112; have BK112 := m_BK112; clear m_BK112; have m_BK4 := am (blk_below BK4.out hb); clear BK4; have BK4 := m_BK4; clear m_BK4; have BK5 := am hbox; clear HB; have HB := nb_; have GE5 := n_BK5; clear nb_ n_BK5 hb hbox hg)
   | ((with_reducible refine gate_dst (N := 7) rfl ?_); refine box_event ?hg (N := 7) ?hd (cs := #[.nilFunc]) (t := 59) ?hr ?_; (case hd => rfl); (case hg => rfl); (case hr => first | (go_simp; done) | (go_simp; rfl)); intro g7 hg W7 hbox hb; have nb_ := am (below_step HB.out hb); have n_BK7 := am (show w.heap.size ≤ g7 by rw [hg]; exact below_size HB.out); have m_BK112 := am (blk_below BK112.out hb); clear BK112; have BK112 := m_BK112; clear m_BK112; have m_BK4 := am (blk_below BK4.out hb); clear BK4; have BK4 := m_BK4; clear m_BK4; have m_BK5 := am (blk_below BK5.out hb); clear BK5; have BK5 := m_BK5; clear m_BK5; have BK7 := am hbox; clear HB; have HB := nb_; have GE7 := n_BK7; clear nb_ n_BK7 hb hbox hg; have hz7 : W7.cell? ⟨g7, 0, none⟩ = some .nilFunc := (blk_cell BK7.out 0).trans rfl; have hf7 := blk_frozen BK7.out 0)
   | ((with_reducible refine gate_store (t := 59) (p := 7) rfl ?_); refine store_event (t := 59) (p := 7) (v := .tmp 10) (w1 := W7.setCell ⟨g7, 0, none⟩ (.func (.func 37) #[] #[.pointer (some ⟨g4, 0, none⟩), .pointer (some ⟨g5, 0, none⟩)])) ?hg ?ho ?hn ?hr ?_; (case ho => rfl); (case hg => rfl); (case hn => rfl); (case hr => first | (go_simp; done) | (go_simp; rfl)); intro WP hw; have m1 : Aside0 (WP.heap[g7]? = some (.cells #[(.func (.func 37) #[] #[.pointer (some ⟨g4, 0, none⟩), .pointer (some ⟨g5, 0, none⟩)])] 59 (0, 0))) := ⟨by rw [hw]; exact blk_put BK7.out 0 _ rfl⟩; have m2 : Aside0 (WP.heap[gb112]? = some (.cells #[.int .i64 a0_0, .slice A0_1 l0_1.length c0_1, .slice A0_2 l0_2.length c0_2] 40 (0, 0))) := ⟨by rw [hw]; exact blk_far BK112.out (blk_ne BK112.out BK7.out (by decide)) _⟩; have m3 : Aside0 (WP.heap[g4]? = some (.cells #[.string a1] 9 (0, 0))) := ⟨by rw [hw]; exact blk_far BK4.out (blk_ne BK4.out BK7.out (by decide)) _⟩; have m4 : Aside0 (WP.heap[g5]? = some (.cells #[.int .i64 a2] 3 (0, 0))) := ⟨by rw [hw]; exact blk_far BK5.out (blk_ne BK5.out BK7.out (by decide)) _⟩; have m5 : Aside0 (Below w.heap.size w WP) := ⟨by rw [hw]; exact below_set HB.out GE7.out⟩; clear BK7 BK112 BK4 BK5 HB hz7 hf7 hw; have BK7 := m1; have BK112 := m2; have BK4 := m3; have BK5 := m4; have HB := m5; clear m1 m2 m3 m4 m5; have hcz_0 : WP.cell? ⟨gb112, 0, none⟩ = some (.int .i64 a0_0) := (blk_cell BK112.out 0).trans rfl; have hcz_1 : WP.cell? ⟨gb112, 1, none⟩ = some (.slice A0_1 l0_1.length c0_1) := (blk_cell BK112.out 1).trans rfl; have hcz_2 : WP.cell? ⟨gb112, 2, none⟩ = some (.slice A0_2 l0_2.length c0_2) := (blk_cell BK112.out 2).trans rfl; have hcz_4 : WP.cell? ⟨g4, 0, none⟩ = some (.string a1) := (blk_cell BK4.out 0).trans rfl; have hcz_5 : WP.cell? ⟨g5, 0, none⟩ = some (.int .i64 a2) := (blk_cell BK5.out 0).trans rfl; have hcz_7 : WP.cell? ⟨g7, 0, none⟩ = some (.func (.func 37) #[] #[.pointer (some ⟨g4, 0, none⟩), .pointer (some ⟨g5, 0, none⟩)]) := (blk_cell BK7.out 0).trans rfl))
  go_ret
  exact ⟨by first | rfl | (simp [errW_none, errW_some] <;> rfl) | (simp [*, errW_none, errW_some] <;> rfl), by repeat (first | (with_reducible first | exact HB.out | apply below_alloc | apply pw_below_drewN | apply below_drew1 | refine below_set ?_ GE112.out) | exact HB.out)⟩
 ·rw [if_neg c4] at H
  have c4b0 : decide (300 < a2) = false := decide_eq_false c4
  clear c4
  by_cases c6 : a0_0 = 1
  ·rw [if_pos c6] at H
   have c6b0 : (a0_0 == 1) = true := beq_iff_eq.mpr c6
   have c6b1 : (a0_0 != 1) = false := bne_eq_false_iff_eq.mpr c6
   clear c6
   by_cases c7 : (l0_1.length : Int) > 0
   ·rw [if_pos c7] at H
    have c7b0 : decide (0 < (l0_1.length : Int)) = true := decide_eq_true c7
    have c7b1 : decide (0 < l0_1.length) = true := decide_eq_true (by omega)
    clear c7
    by_cases c8 : 0 < (l0_1.length : Int)
    ·rw [if_pos c8] at H
     have c8b0 : decide (0 < (l0_1.length : Int)) = true := decide_eq_true c8
     have c8b1 : decide (0 < l0_1.length) = true := decide_eq_true (by omega)
     clear c8
     replace H := Option.bind_eq_some_iff.mp H
     obtain ⟨t114, A90, H⟩ := H
     replace H : (some t114) = some r := H
     have A9 := am A90
     clear A90
     obtain rfl := Option.some.inj H
     go_enter Try.func33, Try.ntmps33
     try go_wp2_with (first
   | ((with_reducible refine gate_dst (N := 3) rfl ?_); refine box_event ?hg (N := 3) ?hd (cs := #[.int .i64 a0_0, .slice A0_1 l0_1.length c0_1, .slice A0_2 l0_2.length c0_2]) (t := 40) ?hr ?_; (case hd => rfl); (case hg => rfl); (case hr => first | (go_simp; done) | (go_simp; rfl)); intro gb112 hg W3 hbox hb; have nb_ := am (below_step HB.out hb); have n_BK112 := am (show w.heap.size ≤ gb112 by rw [hg]; exact below_size HB.out); have BK112 := am hbox; clear HB; have HB := nb_; have GE112 := n_BK112; clear nb_ n_BK112 hb hbox hg)
   | ((with_reducible refine gate_dst (N := 4) rfl ?_); refine box_event ?hg (N := 4) ?hd (cs := #[.string a1]) (t := 9) ?hr ?_; (case hd => rfl); (case hg => rfl); (case hr => first | (go_simp; done) | (go_simp; rfl)); intro g4 hg W4 hbox hb; have nb_ := am (below_step HB.out hb); have n_BK4 := am (show w.heap.size ≤ g4 by rw [hg]; exact below_size HB.out); have m_BK112 := am (blk_below BK112.out hb); clear BK112; have BK112 := m_BK112; clear m_BK112; have BK4 := am hbox; clear HB; have HB := nb_; have GE4 := n_BK4; clear nb_ n_BK4 hb hbox hg)
   | ((with_reducible refine gate_dst (N := 5) rfl ?_); refine box_event ?hg (N := 5) ?hd (cs := #[.int .i64 a2]) (t := 3) ?hr ?_; (case hd => rfl); (case hg => rfl); (case hr => first | (go_simp; done) | (go_simp; rfl)); intro g5 hg W5 hbox hb; have nb_ := am (below_step HB.out hb); have n_BK5 := am (show w.heap.size ≤ g5 by rw [hg]; exact below_size HB.out); have m_BK112 := am (blk_below BK112.out hb); clear BK112; have BK112 := m_BK112; clear m_BK112; have m_BK4 := am (blk_below BK4.out hb); clear BK4; have BK4 := m_BK4; clear m_BK4; have BK5 := am hbox; clear HB; have HB := nb_; have GE5 := n_BK5; clear nb_ n_BK5 hb hbox hg)
   | ((with_reducible refine gate_dst (N := 7) rfl ?_); refine box_event ?hg (N := 7) ?hd (cs := #[.nilFunc]) (t := 59) ?hr ?_; (case hd => rfl); (case hg => rfl); (case hr => first | (go_simp; done) | (go_simp; rfl)); intro g7 hg W7 hbox hb; have nb_ := am (below_step HB.out hb); have n_BK7 := am (show w.heap.size ≤ g7 by rw [hg]; exact below_size HB.out); have m_BK112 := am (blk_below BK112.out hb); clear BK112; have BK112 := m_BK112; clear m_BK112; have m_BK4 := am (blk_below BK4.out hb); clear BK4; have BK4 := m_BK4; clear m_BK4; have m_BK5 := am (blk_below BK5.out hb); clear BK5; have BK5 := m_BK5; clear m_BK5; have BK7 := am hbox; clear HB; have HB := nb_; have GE7 := n_BK7; clear nb_ n_BK7 hb hbox hg; have hz7 : W7.cell? ⟨g7, 0, none⟩ = some .nilFunc := (blk_cell BK7.out 0).trans rfl; have hf7 := blk_frozen BK7.out 0)
   | ((with_reducible refine gate_store (t := 59) (p := 7) rfl ?_); refine store_event (t := 59) (p := 7) (v := .tmp 10) (w1 := W7.setCell ⟨g7, 0, none⟩ (.func (.func 37) #[] #[.pointer (some ⟨g4, 0, none⟩), .pointer (some ⟨g5, 0, none⟩)])) ?hg ?ho ?hn ?hr ?_; (case ho => rfl); (case hg => rfl); (case hn => rfl); (case hr => first | (go_simp; done) | (go_simp; rfl)); intro WP hw; have m1 : Aside0 (WP.heap[g7]? = some (.cells #[(.func (.func 37) #[] #[.pointer (some ⟨g4, 0, none⟩), .pointer (some ⟨g5, 0, none⟩)])] 59 (0, 0))) := ⟨by rw [hw]; exact blk_put BK7.out 0 _ rfl⟩; have m2 : Aside0 (WP.heap[gb112]? = some (.cells #[.int .i64 a0_0, .slice A0_1 l0_1.length c0_1, .slice A0_2 l0_2.length c0_2] 40 (0, 0))) := ⟨by rw [hw]; exact blk_far BK112.out (blk_ne BK112.out BK7.out (by decide)) _⟩; have m3 : Aside0 (WP.heap[g4]? = some (.cells #[.string a1] 9 (0, 0))) := ⟨by rw [hw]; exact blk_far BK4.out (blk_ne BK4.out BK7.out (by decide)) _⟩; have m4 : Aside0 (WP.heap[g5]? = some (.cells #[.int .i64 a2] 3 (0, 0))) := ⟨by rw [hw]; exact blk_far BK5.out (blk_ne BK5.out BK7.out (by decide)) _⟩; have m5 : Aside0 (Below w.heap.size w WP) := ⟨by rw [hw]; exact below_set HB.out GE7.out⟩; clear BK7 BK112 BK4 BK5 HB hz7 hf7 hw; have BK7 := m1; have BK112 := m2; have BK4 := m3; have BK5 := m4; have HB := m5; clear m1 m2 m3 m4 m5; have hcz_0 : WP.cell? ⟨gb112, 0, none⟩ = some (.int .i64 a0_0) := (blk_cell BK112.out 0).trans rfl; have hcz_1 : WP.cell? ⟨gb112, 1, none⟩ = some (.slice A0_1 l0_1.length c0_1) := (blk_cell BK112.out 1).trans rfl; have hcz_2 : WP.cell? ⟨gb112, 2, none⟩ = some (.slice A0_2 l0_2.length c0_2) := (blk_cell BK112.out 2).trans rfl; have hcz_4 : WP.cell? ⟨g4, 0, none⟩ = some (.string a1) := (blk_cell BK4.out 0).trans rfl; have hcz_5 : WP.cell? ⟨g5, 0, none⟩ = some (.int .i64 a2) := (blk_cell BK5.out 0).trans rfl; have hcz_7 : WP.cell? ⟨g7, 0, none⟩ = some (.func (.func 37) #[] #[.pointer (some ⟨g4, 0, none⟩), .pointer (some ⟨g5, 0, none⟩)]) := (blk_cell BK7.out 0).trans rfl))
     replace BK112 := am (blk_drew BK112.out)
     replace HB := am (below_drew1 HB.out)
     have m_ := am (blk_drew BK4.out)
     clear BK4
     have BK4 := m_
     clear m_
     have m_ := am (blk_drew BK5.out)
     clear BK5
     have BK5 := m_
     clear m_
     have m_ := am (blk_drew BK7.out)
     clear BK7
     have BK7 := m_
     clear m_
     have p113 : 0 ≤ (0 : Int) := (by omega)
     have q113 : 0 < (l0_1.length : Int) := of_decide_eq_true (by first | (with_reducible assumption) | assumption)
     obtain ⟨ad113, e113, hx113_0⟩ := Kd.at_string HR0_1.out 0 p113 q113
     have hw113_0 := hx113_0
     (try rw [show ((0 : Int)).toNat = 0 from rfl] at hw113_0)
     (try rw [show 0 * 1 = 0 from rfl] at hw113_0)
     (try rw [Addr.add_zero'] at hw113_0)
     cases e113
     have qi113 : (0 < l0_1.length) = True := eq_true (by omega)
     (try rw [show ((0 : Int)).toNat = 0 from rfl] at hx113_0)
     (try rw [Addr.add_zero'] at hx113_0)
     replace hx113_0 := (HB.out.cell (World.block_lt_of_cell? w _ hx113_0)).trans hx113_0
     replace p113 := eq_true p113
     replace q113 := eq_true q113
     refine start_ (n := 13) (S := fun w' => w'.cell? ⟨gb112, 0, none⟩ = some (.int .i64 a0_0) ∧ w'.cell? ⟨gb112, 1, none⟩ = some (.slice (some ad113) l0_1.length c0_1) ∧ w'.cell? ⟨gb112, 2, none⟩ = some (.slice A0_2 l0_2.length c0_2) ∧ w'.cell? ad113 = some (.string (rdOf ByteArray.empty l0_1 0)) ∧ w'.cell? ⟨g4, 0, none⟩ = some (.string a1)) (ds := []) #[false, false, false, false, false, false, false, false, false, false, false, false, false] (by kernel_rfl) rfl rfl ⟨(blk_cell BK112.out 0).trans rfl, (blk_cell BK112.out 1).trans rfl, (blk_cell BK112.out 2).trans rfl, ((HB.out.cell (World.block_lt_of_cell? w _ hw113_0)).trans hw113_0), (blk_cell BK4.out 0).trans rfl⟩ (fun hHeld => ?_); refine with_tabW eval_match.tab5 eval_match.bits5 (fun HT_ HW_ => ?_)
     clear hcz_0 hcz_1 hcz_2 hcz_4 hcz_5 hcz_7
     generalize WP.drew = w12 at BK112 BK4 BK5 BK7 HB hx113_0 hHeld ⊢
     refine pure_ (i := 0) (N := some 18) (v := ?_) (a' := ?_) #[true, false, false, false, false, false, false, false, false, false, false, false, false] rfl rfl (any_of HT_.out (by kernel_rfl)) (fun _ _ _ h => h) (Or.inl ⟨by rfl, ?_⟩) ?_ ?_
     rotate_left
     ·intro w'
      go_simp
      with_reducible rfl
     rotate_left
     ·simp only [Act.put, List.setIfInBounds_toArray, List.set_cons_zero, List.set_cons_succ, i64_w, i32_w]
      rfl
     refine take_ (i := 1) (N := some 19) (v := ?_) (a' := ?_) #[true, true, false, false, false, false, false, false, false, false, false, false, false] rfl rfl (take_ofW HT_.out HW_.out (by kernel_rfl)) (fun _ _ _ h => h) (Or.inl ⟨by rfl, ?_⟩) hHeld ?_ ?_
     rotate_left
     ·rintro w' ⟨s0, s1, s2, s3, s4⟩
      go_simp
      with_reducible rfl
     rotate_left
     ·simp only [Act.put, List.setIfInBounds_toArray, List.set_cons_zero, List.set_cons_succ, i64_w, i32_w]
      rfl
     refine pure_ (i := 2) (N := some 20) (v := ?_) (a' := ?_) #[true, true, true, false, false, false, false, false, false, false, false, false, false] rfl rfl (any_of HT_.out (by kernel_rfl)) (fun _ _ _ h => h) (Or.inl ⟨by rfl, ?_⟩) ?_ ?_
     rotate_left
     ·intro w'
      go_simp
      with_reducible rfl
     rotate_left
     ·simp only [Act.put, List.setIfInBounds_toArray, List.set_cons_zero, List.set_cons_succ, i64_w, i32_w]
      rfl
     refine pure_ (i := 3) (N := some 21) (v := ?_) (a' := ?_) #[true, true, true, true, false, false, false, false, false, false, false, false, false] rfl rfl (any_of HT_.out (by kernel_rfl)) (fun _ _ _ h => h) (Or.inl ⟨by rfl, ?_⟩) ?_ ?_
     rotate_left
     ·intro w'
      go_simp
      with_reducible rfl
     rotate_left
     ·simp only [Act.put, List.setIfInBounds_toArray, List.set_cons_zero, List.set_cons_succ, i64_w, i32_w]
      rfl
     refine pure_ (i := 4) (N := some 22) (v := ?_) (a' := ?_) #[true, true, true, true, true, false, false, false, false, false, false, false, false] rfl rfl (any_of HT_.out (by kernel_rfl)) (fun _ _ _ h => h) (Or.inl ⟨by rfl, ?_⟩) ?_ ?_
     rotate_left
     ·intro w'
      go_simp
      with_reducible rfl
     rotate_left
     ·simp only [Act.put, List.setIfInBounds_toArray, List.set_cons_zero, List.set_cons_succ, i64_w, i32_w]
      rfl
     refine take_ (i := 5) (N := some 23) (v := ?_) (a' := ?_) #[true, true, true, true, true, true, false, false, false, false, false, false, false] rfl rfl (take_ofW HT_.out HW_.out (by kernel_rfl)) (fun _ _ _ h => h) (Or.inl ⟨by rfl, ?_⟩) hHeld ?_ ?_
     rotate_left
     ·rintro w' ⟨s0, s1, s2, s3, s4⟩
      go_simp
      with_reducible rfl
     rotate_left
     ·simp only [Act.put, List.setIfInBounds_toArray, List.set_cons_zero, List.set_cons_succ, i64_w, i32_w]
      rfl
     refine pure_ (i := 6) (N := some 24) (v := ?_) (a' := ?_) #[true, true, true, true, true, true, true, false, false, false, false, false, false] rfl rfl (any_of HT_.out (by kernel_rfl)) (fun _ _ _ h => h) (Or.inl ⟨by rfl, ?_⟩) ?_ ?_
     rotate_left
     ·intro w'
      go_simp
      with_reducible rfl
     rotate_left
     ·simp only [Act.put, List.setIfInBounds_toArray, List.set_cons_zero, List.set_cons_succ, i64_w, i32_w]
      rfl
     refine take_ (i := 7) (N := some 25) (v := ?_) (a' := ?_) #[true, true, true, true, true, true, true, true, false, false, false, false, false] rfl rfl (take_ofW HT_.out HW_.out (by kernel_rfl)) (fun _ _ _ h => h) (Or.inl ⟨by rfl, ?_⟩) hHeld ?_ ?_
     rotate_left
     ·rintro w' ⟨s0, s1, s2, s3, s4⟩
      go_simp
      with_reducible rfl
     rotate_left
     ·simp only [Act.put, List.setIfInBounds_toArray, List.set_cons_zero, List.set_cons_succ, i64_w, i32_w]
      rfl
     refine pure_ (i := 8) (N := some 26) (v := ?_) (a' := ?_) #[true, true, true, true, true, true, true, true, true, false, false, false, false] rfl rfl (any_of HT_.out (by kernel_rfl)) (fun _ _ _ h => h) (Or.inl ⟨by rfl, ?_⟩) ?_ ?_
     rotate_left
     ·intro w'
      go_simp
      with_reducible rfl
     rotate_left
     ·simp only [Act.put, List.setIfInBounds_toArray, List.set_cons_zero, List.set_cons_succ, i64_w, i32_w]
      rfl
     refine take_ (i := 9) (N := some 27) (v := ?_) (a' := ?_) #[true, true, true, true, true, true, true, true, true, true, false, false, false] rfl rfl (take_ofW HT_.out HW_.out (by kernel_rfl)) (fun _ _ _ h => h) (Or.inl ⟨by rfl, ?_⟩) hHeld ?_ ?_
     rotate_left
     ·rintro w' ⟨s0, s1, s2, s3, s4⟩
      go_simp
      with_reducible rfl
     rotate_left
     ·simp only [Act.put, List.setIfInBounds_toArray, List.set_cons_zero, List.set_cons_succ, i64_w, i32_w]
      rfl
     refine one_ (i := 10) (N := some 28) #[true, true, true, true, true, true, true, true, true, true, true, false, false] rfl rfl (one_of HT_.out (by kernel_rfl)) (by decide) (fun K hK => ?_)
     refine goes_ Try.func38 (by kernel_rfl) rfl #[.string a1, .string (rdOf ByteArray.empty l0_1 0)] (by rfl) rfl rfl (by (try simp only [List.map_toArray, List.map_cons, List.map_nil]); first | done | rfl | (simp only [List.length_drop, List.length_take]; rfl)) ?_
     with_reducible refine (strings_Contains.calls a1 (rdOf ByteArray.empty l0_1 0) t114 _ ?side1 A9.out).mono ?_
     (case side1 => first | exact GlobOk.below HG.out (by repeat first | exact lU HB.out | refine below_set ?_ GE112.out | apply below_alloc | apply pw_below_drewN | apply below_drew1) | (repeat (first | exact HG.out | (with_reducible refine GlobOk.alloc ?_ _) | (with_reducible refine GlobOk.drewN ?_ _) | (with_reducible refine GlobOk.drew ?_))))
     rintro e w' ⟨rfl, ⟨nd, rfl⟩⟩
     refine ⟨_, rfl, ?_⟩
     refine hK.out _ _ ⟨(blk_cell BK112.out 0).trans rfl, (blk_cell BK112.out 1).trans rfl, (blk_cell BK112.out 2).trans rfl, ((HB.out.cell (World.block_lt_of_cell? w _ hw113_0)).trans hw113_0), (blk_cell BK4.out 0).trans rfl⟩ (fun hHeld => ?_)
     clear hK K
     refine norm_ (a' := ?_) ?_ ?_
     rotate_left
     ·show Act.put _ (some 28) _ = _
      simp only [Act.put, List.setIfInBounds_toArray, List.set_cons_zero, List.set_cons_succ, i64_w, i32_w]
      rfl
     refine pure_ (i := 11) (N := some 29) (v := ?_) (a' := ?_) #[true, true, true, true, true, true, true, true, true, true, true, true, false] rfl rfl (any_of HT_.out (by kernel_rfl)) (fun _ _ _ h => h) (Or.inl ⟨by rfl, ?_⟩) ?_ ?_
     rotate_left
     ·intro w'
      go_simp
      with_reducible rfl
     rotate_left
     ·simp only [Act.put, List.setIfInBounds_toArray, List.set_cons_zero, List.set_cons_succ, i64_w, i32_w]
      rfl
     refine pure_ (i := 12) (N := some 6) (v := ?_) (a' := ?_) #[true, true, true, true, true, true, true, true, true, true, true, true, true] rfl rfl (any_of HT_.out (by kernel_rfl)) (fun _ _ _ h => h) (Or.inl ⟨by rfl, ?_⟩) ?_ ?_
     rotate_left
     ·intro w'
      go_simp
      with_reducible rfl
     rotate_left
     ·simp only [Act.put, List.setIfInBounds_toArray, List.set_cons_zero, List.set_cons_succ, i64_w, i32_w]
      rfl
     refine done_ (done_of HT_.out (by kernel_rfl)) ?_
     try go_wp2
     go_ret
     exact ⟨by first | rfl | (simp [errW_none, errW_some] <;> rfl) | (simp [*, errW_none, errW_some] <;> rfl), by repeat (first | (with_reducible first | exact HB.out | apply below_alloc | apply pw_below_drewN | apply below_drew1 | refine below_set ?_ GE112.out) | exact HB.out)⟩
    ·rw [if_neg c8] at H
     exact absurd H (by simp)
   ·rw [if_neg c7] at H
    have c7b0 : decide (0 < (l0_1.length : Int)) = false := decide_eq_false c7
    have c7b1 : decide (0 < l0_1.length) = false := decide_eq_false (by omega)
    clear c7
    obtain rfl := Option.some.inj H
    go_enter Try.func33, Try.ntmps33
    try go_wp2_with (first
   | ((with_reducible refine gate_dst (N := 3) rfl ?_); refine box_event ?hg (N := 3) ?hd (cs := #[.int .i64 a0_0, .slice A0_1 l0_1.length c0_1, .slice A0_2 l0_2.length c0_2]) (t := 40) ?hr ?_; (case hd => rfl); (case hg => rfl); (case hr => first | (go_simp; done) | (go_simp; rfl)); intro gb112 hg W3 hbox hb; have nb_ := am (below_step HB.out hb); have n_BK112 := am (show w.heap.size ≤ gb112 by rw [hg]; exact below_size HB.out); have BK112 := am hbox; clear HB; have HB := nb_; have GE112 := n_BK112; clear nb_ n_BK112 hb hbox hg)
   | ((with_reducible refine gate_dst (N := 4) rfl ?_); refine box_event ?hg (N := 4) ?hd (cs := #[.string a1]) (t := 9) ?hr ?_; (case hd => rfl); (case hg => rfl); (case hr => first | (go_simp; done) | (go_simp; rfl)); intro g4 hg W4 hbox hb; have nb_ := am (below_step HB.out hb); have n_BK4 := am (show w.heap.size ≤ g4 by rw [hg]; exact below_size HB.out); have m_BK112 := am (blk_below BK112.out hb); clear BK112; have BK112 := m_BK112; clear m_BK112; have BK4 := am hbox; clear HB; have HB := nb_; have GE4 := n_BK4; clear nb_ n_BK4 hb hbox hg)
   | ((with_reducible refine gate_dst (N := 5) rfl ?_); refine box_event ?hg (N := 5) ?hd (cs := #[.int .i64 a2]) (t := 3) ?hr ?_; (case hd => rfl); (case hg => rfl); (case hr => first | (go_simp; done) | (go_simp; rfl)); intro g5 hg W5 hbox hb; have nb_ := am (below_step HB.out hb); have n_BK5 := am (show w.heap.size ≤ g5 by rw [hg]; exact below_size HB.out); have m_BK112 := am (blk_below BK112.out hb); clear BK112; have BK112 := m_BK112; clear m_BK112; have m_BK4 := am (blk_below BK4.out hb); clear BK4; have BK4 := m_BK4; clear m_BK4; have BK5 := am hbox; clear HB; have HB := nb_; have GE5 := n_BK5; clear nb_ n_BK5 hb hbox hg)
   | ((with_reducible refine gate_dst (N := 7) rfl ?_); refine box_event ?hg (N := 7) ?hd (cs := #[.nilFunc]) (t := 59) ?hr ?_; (case hd => rfl); (case hg => rfl); (case hr => first | (go_simp; done) | (go_simp; rfl)); intro g7 hg W7 hbox hb; have nb_ := am (below_step HB.out hb); have n_BK7 := am (show w.heap.size ≤ g7 by rw [hg]; exact below_size HB.out); have m_BK112 := am (blk_below BK112.out hb); clear BK112; have BK112 := m_BK112; clear m_BK112; have m_BK4 := am (blk_below BK4.out hb); clear BK4; have BK4 := m_BK4; clear m_BK4; have m_BK5 := am (blk_below BK5.out hb); clear BK5; have BK5 := m_BK5; clear m_BK5; have BK7 := am hbox; clear HB; have HB := nb_; have GE7 := n_BK7; clear nb_ n_BK7 hb hbox hg; have hz7 : W7.cell? ⟨g7, 0, none⟩ = some .nilFunc := (blk_cell BK7.out 0).trans rfl; have hf7 := blk_frozen BK7.out 0)
   | ((with_reducible refine gate_store (t := 59) (p := 7) rfl ?_); refine store_event (t := 59) (p := 7) (v := .tmp 10) (w1 := W7.setCell ⟨g7, 0, none⟩ (.func (.func 37) #[] #[.pointer (some ⟨g4, 0, none⟩), .pointer (some ⟨g5, 0, none⟩)])) ?hg ?ho ?hn ?hr ?_; (case ho => rfl); (case hg => rfl); (case hn => rfl); (case hr => first | (go_simp; done) | (go_simp; rfl)); intro WP hw; have m1 : Aside0 (WP.heap[g7]? = some (.cells #[(.func (.func 37) #[] #[.pointer (some ⟨g4, 0, none⟩), .pointer (some ⟨g5, 0, none⟩)])] 59 (0, 0))) := ⟨by rw [hw]; exact blk_put BK7.out 0 _ rfl⟩; have m2 : Aside0 (WP.heap[gb112]? = some (.cells #[.int .i64 a0_0, .slice A0_1 l0_1.length c0_1, .slice A0_2 l0_2.length c0_2] 40 (0, 0))) := ⟨by rw [hw]; exact blk_far BK112.out (blk_ne BK112.out BK7.out (by decide)) _⟩; have m3 : Aside0 (WP.heap[g4]? = some (.cells #[.string a1] 9 (0, 0))) := ⟨by rw [hw]; exact blk_far BK4.out (blk_ne BK4.out BK7.out (by decide)) _⟩; have m4 : Aside0 (WP.heap[g5]? = some (.cells #[.int .i64 a2] 3 (0, 0))) := ⟨by rw [hw]; exact blk_far BK5.out (blk_ne BK5.out BK7.out (by decide)) _⟩; have m5 : Aside0 (Below w.heap.size w WP) := ⟨by rw [hw]; exact below_set HB.out GE7.out⟩; clear BK7 BK112 BK4 BK5 HB hz7 hf7 hw; have BK7 := m1; have BK112 := m2; have BK4 := m3; have BK5 := m4; have HB := m5; clear m1 m2 m3 m4 m5; have hcz_0 : WP.cell? ⟨gb112, 0, none⟩ = some (.int .i64 a0_0) := (blk_cell BK112.out 0).trans rfl; have hcz_1 : WP.cell? ⟨gb112, 1, none⟩ = some (.slice A0_1 l0_1.length c0_1) := (blk_cell BK112.out 1).trans rfl; have hcz_2 : WP.cell? ⟨gb112, 2, none⟩ = some (.slice A0_2 l0_2.length c0_2) := (blk_cell BK112.out 2).trans rfl; have hcz_4 : WP.cell? ⟨g4, 0, none⟩ = some (.string a1) := (blk_cell BK4.out 0).trans rfl; have hcz_5 : WP.cell? ⟨g5, 0, none⟩ = some (.int .i64 a2) := (blk_cell BK5.out 0).trans rfl; have hcz_7 : WP.cell? ⟨g7, 0, none⟩ = some (.func (.func 37) #[] #[.pointer (some ⟨g4, 0, none⟩), .pointer (some ⟨g5, 0, none⟩)]) := (blk_cell BK7.out 0).trans rfl))
    replace BK112 := am (blk_drew BK112.out)
    replace HB := am (below_drew1 HB.out)
    have m_ := am (blk_drew BK4.out)
    clear BK4
    have BK4 := m_
    clear m_
    have m_ := am (blk_drew BK5.out)
    clear BK5
    have BK5 := m_
    clear m_
    have m_ := am (blk_drew BK7.out)
    clear BK7
    have BK7 := m_
    clear m_
    refine start_ (n := 13) (S := fun w' => w'.cell? ⟨gb112, 0, none⟩ = some (.int .i64 a0_0) ∧ w'.cell? ⟨gb112, 1, none⟩ = some (.slice A0_1 l0_1.length c0_1) ∧ w'.cell? ⟨gb112, 2, none⟩ = some (.slice A0_2 l0_2.length c0_2) ∧ w'.cell? ⟨g4, 0, none⟩ = some (.string a1)) (ds := []) #[false, false, false, false, false, false, false, false, false, false, false, false, false] (by kernel_rfl) rfl rfl ⟨(blk_cell BK112.out 0).trans rfl, (blk_cell BK112.out 1).trans rfl, (blk_cell BK112.out 2).trans rfl, (blk_cell BK4.out 0).trans rfl⟩ (fun hHeld => ?_); refine with_tabW eval_match.tab5 eval_match.bits5 (fun HT_ HW_ => ?_)
    clear hcz_0 hcz_1 hcz_2 hcz_4 hcz_5 hcz_7
    generalize WP.drew = w15 at BK112 BK4 BK5 BK7 HB hHeld ⊢
    refine pure_ (i := 0) (N := some 18) (v := ?_) (a' := ?_) #[true, false, false, false, false, false, false, false, false, false, false, false, false] rfl rfl (any_of HT_.out (by kernel_rfl)) (fun _ _ _ h => h) (Or.inl ⟨by rfl, ?_⟩) ?_ ?_
    rotate_left
    ·intro w'
     go_simp
     with_reducible rfl
    rotate_left
    ·simp only [Act.put, List.setIfInBounds_toArray, List.set_cons_zero, List.set_cons_succ, i64_w, i32_w]
     rfl
    refine take_ (i := 1) (N := some 19) (v := ?_) (a' := ?_) #[true, true, false, false, false, false, false, false, false, false, false, false, false] rfl rfl (take_ofW HT_.out HW_.out (by kernel_rfl)) (fun _ _ _ h => h) (Or.inl ⟨by rfl, ?_⟩) hHeld ?_ ?_
    rotate_left
    ·rintro w' ⟨s0, s1, s2, s3⟩
     go_simp
     with_reducible rfl
    rotate_left
    ·simp only [Act.put, List.setIfInBounds_toArray, List.set_cons_zero, List.set_cons_succ, i64_w, i32_w]
     rfl
    refine pure_ (i := 2) (N := some 20) (v := ?_) (a' := ?_) #[true, true, true, false, false, false, false, false, false, false, false, false, false] rfl rfl (any_of HT_.out (by kernel_rfl)) (fun _ _ _ h => h) (Or.inl ⟨by rfl, ?_⟩) ?_ ?_
    rotate_left
    ·intro w'
     go_simp
     with_reducible rfl
    rotate_left
    ·simp only [Act.put, List.setIfInBounds_toArray, List.set_cons_zero, List.set_cons_succ, i64_w, i32_w]
     rfl
    refine pure_ (i := 3) (N := some 21) (v := ?_) (a' := ?_) #[true, true, true, true, false, false, false, false, false, false, false, false, false] rfl rfl (any_of HT_.out (by kernel_rfl)) (fun _ _ _ h => h) (Or.inl ⟨by rfl, ?_⟩) ?_ ?_
    rotate_left
    ·intro w'
     go_simp
     with_reducible rfl
    rotate_left
    ·simp only [Act.put, List.setIfInBounds_toArray, List.set_cons_zero, List.set_cons_succ, i64_w, i32_w]
     rfl
    refine pure_ (i := 4) (N := some 22) (v := ?_) (a' := ?_) #[true, true, true, true, true, false, false, false, false, false, false, false, false] rfl rfl (any_of HT_.out (by kernel_rfl)) (fun _ _ _ h => h) (Or.inl ⟨by rfl, ?_⟩) ?_ ?_
    rotate_left
    ·intro w'
     go_simp
     with_reducible rfl
    rotate_left
    ·simp only [Act.put, List.setIfInBounds_toArray, List.set_cons_zero, List.set_cons_succ, i64_w, i32_w]
     rfl
    refine pure_ (i := 5) (N := some 23) (v := undef) (a' := ?_) #[true, true, true, true, true, true, false, false, false, false, false, false, false] rfl rfl (any_of HT_.out (by kernel_rfl)) (fun _ _ _ h => h) (Or.inr ⟨by rfl, rfl⟩) ?_ ?_
    rotate_left
    ·simp only [Act.put, List.setIfInBounds_toArray, List.set_cons_zero, List.set_cons_succ, i64_w, i32_w]
     rfl
    refine pure_ (i := 6) (N := some 24) (v := undef) (a' := ?_) #[true, true, true, true, true, true, true, false, false, false, false, false, false] rfl rfl (any_of HT_.out (by kernel_rfl)) (fun _ _ _ h => h) (Or.inr ⟨by rfl, rfl⟩) ?_ ?_
    rotate_left
    ·simp only [Act.put, List.setIfInBounds_toArray, List.set_cons_zero, List.set_cons_succ, i64_w, i32_w]
     rfl
    refine pure_ (i := 7) (N := some 25) (v := undef) (a' := ?_) #[true, true, true, true, true, true, true, true, false, false, false, false, false] rfl rfl (any_of HT_.out (by kernel_rfl)) (fun _ _ _ h => h) (Or.inr ⟨by rfl, rfl⟩) ?_ ?_
    rotate_left
    ·simp only [Act.put, List.setIfInBounds_toArray, List.set_cons_zero, List.set_cons_succ, i64_w, i32_w]
     rfl
    refine pure_ (i := 8) (N := some 26) (v := undef) (a' := ?_) #[true, true, true, true, true, true, true, true, true, false, false, false, false] rfl rfl (any_of HT_.out (by kernel_rfl)) (fun _ _ _ h => h) (Or.inr ⟨by rfl, rfl⟩) ?_ ?_
    rotate_left
    ·simp only [Act.put, List.setIfInBounds_toArray, List.set_cons_zero, List.set_cons_succ, i64_w, i32_w]
     rfl
    refine pure_ (i := 9) (N := some 27) (v := undef) (a' := ?_) #[true, true, true, true, true, true, true, true, true, true, false, false, false] rfl rfl (any_of HT_.out (by kernel_rfl)) (fun _ _ _ h => h) (Or.inr ⟨by rfl, rfl⟩) ?_ ?_
    rotate_left
    ·simp only [Act.put, List.setIfInBounds_toArray, List.set_cons_zero, List.set_cons_succ, i64_w, i32_w]
     rfl
    refine pure_ (i := 10) (N := some 28) (v := undef) (a' := ?_) #[true, true, true, true, true, true, true, true, true, true, true, false, false] rfl rfl (any_of HT_.out (by kernel_rfl)) (fun _ _ _ h => h) (Or.inr ⟨by rfl, rfl⟩) ?_ ?_
    rotate_left
    ·simp only [Act.put, List.setIfInBounds_toArray, List.set_cons_zero, List.set_cons_succ, i64_w, i32_w]
     rfl
    refine pure_ (i := 11) (N := some 29) (v := ?_) (a' := ?_) #[true, true, true, true, true, true, true, true, true, true, true, true, false] rfl rfl (any_of HT_.out (by kernel_rfl)) (fun _ _ _ h => h) (Or.inl ⟨by rfl, ?_⟩) ?_ ?_
    rotate_left
    ·intro w'
     go_simp
     with_reducible rfl
    rotate_left
    ·simp only [Act.put, List.setIfInBounds_toArray, List.set_cons_zero, List.set_cons_succ, i64_w, i32_w]
     rfl
    refine pure_ (i := 12) (N := some 6) (v := ?_) (a' := ?_) #[true, true, true, true, true, true, true, true, true, true, true, true, true] rfl rfl (any_of HT_.out (by kernel_rfl)) (fun _ _ _ h => h) (Or.inl ⟨by rfl, ?_⟩) ?_ ?_
    rotate_left
    ·intro w'
     go_simp
     with_reducible rfl
    rotate_left
    ·simp only [Act.put, List.setIfInBounds_toArray, List.set_cons_zero, List.set_cons_succ, i64_w, i32_w]
     rfl
    refine done_ (done_of HT_.out (by kernel_rfl)) ?_
    try go_wp2
    go_ret
    exact ⟨by first | rfl | (simp [errW_none, errW_some] <;> rfl) | (simp [*, errW_none, errW_some] <;> rfl), by repeat (first | (with_reducible first | exact HB.out | apply below_alloc | apply pw_below_drewN | apply below_drew1 | refine below_set ?_ GE112.out) | exact HB.out)⟩
  ·rw [if_neg c6] at H
   have c6b0 : (a0_0 == 1) = false := beq_eq_false_iff_ne.mpr c6
   have c6b1 : (a0_0 != 1) = true := bne_iff_ne.mpr c6
   by_cases c16 : a0_0 = 2
   ·rw [if_pos c16] at H
    have c16b0 : (a0_0 == 2) = true := beq_iff_eq.mpr c16
    have c16b1 : (a0_0 != 2) = false := bne_eq_false_iff_eq.mpr c16
    clear c16
    by_cases c17 : (l0_1.length : Int) > 0
    ·rw [if_pos c17] at H
     have c17b0 : decide (0 < (l0_1.length : Int)) = true := decide_eq_true c17
     have c17b1 : decide (0 < l0_1.length) = true := decide_eq_true (by omega)
     clear c17
     by_cases c18 : 0 < (l0_1.length : Int)
     ·rw [if_pos c18] at H
      have c18b0 : decide (0 < (l0_1.length : Int)) = true := decide_eq_true c18
      have c18b1 : decide (0 < l0_1.length) = true := decide_eq_true (by omega)
      clear c18
      replace H := Option.bind_eq_some_iff.mp H
      obtain ⟨t116, A190, H⟩ := H
      replace H : (some t116) = some r := H
      have A19 := am A190
      clear A190
      obtain rfl := Option.some.inj H
      go_enter Try.func33, Try.ntmps33
      try go_wp2_with (first
   | ((with_reducible refine gate_dst (N := 3) rfl ?_); refine box_event ?hg (N := 3) ?hd (cs := #[.int .i64 a0_0, .slice A0_1 l0_1.length c0_1, .slice A0_2 l0_2.length c0_2]) (t := 40) ?hr ?_; (case hd => rfl); (case hg => rfl); (case hr => first | (go_simp; done) | (go_simp; rfl)); intro gb112 hg W3 hbox hb; have nb_ := am (below_step HB.out hb); have n_BK112 := am (show w.heap.size ≤ gb112 by rw [hg]; exact below_size HB.out); have BK112 := am hbox; clear HB; have HB := nb_; have GE112 := n_BK112; clear nb_ n_BK112 hb hbox hg)
   | ((with_reducible refine gate_dst (N := 4) rfl ?_); refine box_event ?hg (N := 4) ?hd (cs := #[.string a1]) (t := 9) ?hr ?_; (case hd => rfl); (case hg => rfl); (case hr => first | (go_simp; done) | (go_simp; rfl)); intro g4 hg W4 hbox hb; have nb_ := am (below_step HB.out hb); have n_BK4 := am (show w.heap.size ≤ g4 by rw [hg]; exact below_size HB.out); have m_BK112 := am (blk_below BK112.out hb); clear BK112; have BK112 := m_BK112; clear m_BK112; have BK4 := am hbox; clear HB; have HB := nb_; have GE4 := n_BK4; clear nb_ n_BK4 hb hbox hg)
   | ((with_reducible refine gate_dst (N := 5) rfl ?_); refine box_event ?hg (N := 5) ?hd (cs := #[.int .i64 a2]) (t := 3) ?hr ?_; (case hd => rfl); (case hg => rfl); (case hr => first | (go_simp; done) | (go_simp; rfl)); intro g5 hg W5 hbox hb; have nb_ := am (below_step HB.out hb); have n_BK5 := am (show w.heap.size ≤ g5 by rw [hg]; exact below_size HB.out); have m_BK112 := am (blk_below BK112.out hb); clear BK112; have BK112 := m_BK112; clear m_BK112; have m_BK4 := am (blk_below BK4.out hb); clear BK4; have BK4 := m_BK4; clear m_BK4; have BK5 := am hbox; clear HB; have HB := nb_; have GE5 := n_BK5; clear nb_ n_BK5 hb hbox hg)
   | ((with_reducible refine gate_dst (N := 7) rfl ?_); refine box_event ?hg (N := 7) ?hd (cs := #[.nilFunc]) (t := 59) ?hr ?_; (case hd => rfl); (case hg => rfl); (case hr => first | (go_simp; done) | (go_simp; rfl)); intro g7 hg W7 hbox hb; have nb_ := am (below_step HB.out hb); have n_BK7 := am (show w.heap.size ≤ g7 by rw [hg]; exact below_size HB.out); have m_BK112 := am (blk_below BK112.out hb); clear BK112; have BK112 := m_BK112; clear m_BK112; have m_BK4 := am (blk_below BK4.out hb); clear BK4; have BK4 := m_BK4; clear m_BK4; have m_BK5 := am (blk_below BK5.out hb); clear BK5; have BK5 := m_BK5; clear m_BK5; have BK7 := am hbox; clear HB; have HB := nb_; have GE7 := n_BK7; clear nb_ n_BK7 hb hbox hg; have hz7 : W7.cell? ⟨g7, 0, none⟩ = some .nilFunc := (blk_cell BK7.out 0).trans rfl; have hf7 := blk_frozen BK7.out 0)
   | ((with_reducible refine gate_store (t := 59) (p := 7) rfl ?_); refine store_event (t := 59) (p := 7) (v := .tmp 10) (w1 := W7.setCell ⟨g7, 0, none⟩ (.func (.func 37) #[] #[.pointer (some ⟨g4, 0, none⟩), .pointer (some ⟨g5, 0, none⟩)])) ?hg ?ho ?hn ?hr ?_; (case ho => rfl); (case hg => rfl); (case hn => rfl); (case hr => first | (go_simp; done) | (go_simp; rfl)); intro WP hw; have m1 : Aside0 (WP.heap[g7]? = some (.cells #[(.func (.func 37) #[] #[.pointer (some ⟨g4, 0, none⟩), .pointer (some ⟨g5, 0, none⟩)])] 59 (0, 0))) := ⟨by rw [hw]; exact blk_put BK7.out 0 _ rfl⟩; have m2 : Aside0 (WP.heap[gb112]? = some (.cells #[.int .i64 a0_0, .slice A0_1 l0_1.length c0_1, .slice A0_2 l0_2.length c0_2] 40 (0, 0))) := ⟨by rw [hw]; exact blk_far BK112.out (blk_ne BK112.out BK7.out (by decide)) _⟩; have m3 : Aside0 (WP.heap[g4]? = some (.cells #[.string a1] 9 (0, 0))) := ⟨by rw [hw]; exact blk_far BK4.out (blk_ne BK4.out BK7.out (by decide)) _⟩; have m4 : Aside0 (WP.heap[g5]? = some (.cells #[.int .i64 a2] 3 (0, 0))) := ⟨by rw [hw]; exact blk_far BK5.out (blk_ne BK5.out BK7.out (by decide)) _⟩; have m5 : Aside0 (Below w.heap.size w WP) := ⟨by rw [hw]; exact below_set HB.out GE7.out⟩; clear BK7 BK112 BK4 BK5 HB hz7 hf7 hw; have BK7 := m1; have BK112 := m2; have BK4 := m3; have BK5 := m4; have HB := m5; clear m1 m2 m3 m4 m5; have hcz_0 : WP.cell? ⟨gb112, 0, none⟩ = some (.int .i64 a0_0) := (blk_cell BK112.out 0).trans rfl; have hcz_1 : WP.cell? ⟨gb112, 1, none⟩ = some (.slice A0_1 l0_1.length c0_1) := (blk_cell BK112.out 1).trans rfl; have hcz_2 : WP.cell? ⟨gb112, 2, none⟩ = some (.slice A0_2 l0_2.length c0_2) := (blk_cell BK112.out 2).trans rfl; have hcz_4 : WP.cell? ⟨g4, 0, none⟩ = some (.string a1) := (blk_cell BK4.out 0).trans rfl; have hcz_5 : WP.cell? ⟨g5, 0, none⟩ = some (.int .i64 a2) := (blk_cell BK5.out 0).trans rfl; have hcz_7 : WP.cell? ⟨g7, 0, none⟩ = some (.func (.func 37) #[] #[.pointer (some ⟨g4, 0, none⟩), .pointer (some ⟨g5, 0, none⟩)]) := (blk_cell BK7.out 0).trans rfl))
      replace BK112 := am (blk_drew BK112.out)
      replace HB := am (below_drew1 HB.out)
      have m_ := am (blk_drew BK4.out)
      clear BK4
      have BK4 := m_
      clear m_
      have m_ := am (blk_drew BK5.out)
      clear BK5
      have BK5 := m_
      clear m_
      have m_ := am (blk_drew BK7.out)
      clear BK7
      have BK7 := m_
      clear m_
      have p115 : 0 ≤ (0 : Int) := (by omega)
      have q115 : 0 < (l0_1.length : Int) := of_decide_eq_true (by first | (with_reducible assumption) | assumption)
      obtain ⟨ad115, e115, hx115_0⟩ := Kd.at_string HR0_1.out 0 p115 q115
      have hw115_0 := hx115_0
      (try rw [show ((0 : Int)).toNat = 0 from rfl] at hw115_0)
      (try rw [show 0 * 1 = 0 from rfl] at hw115_0)
      (try rw [Addr.add_zero'] at hw115_0)
      cases e115
      have qi115 : (0 < l0_1.length) = True := eq_true (by omega)
      (try rw [show ((0 : Int)).toNat = 0 from rfl] at hx115_0)
      (try rw [Addr.add_zero'] at hx115_0)
      replace hx115_0 := (HB.out.cell (World.block_lt_of_cell? w _ hx115_0)).trans hx115_0
      replace p115 := eq_true p115
      replace q115 := eq_true q115
      refine start_ (n := 13) (S := fun w' => w'.cell? ⟨gb112, 0, none⟩ = some (.int .i64 a0_0) ∧ w'.cell? ⟨gb112, 1, none⟩ = some (.slice (some ad115) l0_1.length c0_1) ∧ w'.cell? ⟨gb112, 2, none⟩ = some (.slice A0_2 l0_2.length c0_2) ∧ w'.cell? ad115 = some (.string (rdOf ByteArray.empty l0_1 0)) ∧ w'.cell? ⟨g4, 0, none⟩ = some (.string a1)) (ds := []) #[false, false, false, false, false, false, false, false, false, false, false, false, false] (by kernel_rfl) rfl rfl ⟨(blk_cell BK112.out 0).trans rfl, (blk_cell BK112.out 1).trans rfl, (blk_cell BK112.out 2).trans rfl, ((HB.out.cell (World.block_lt_of_cell? w _ hw115_0)).trans hw115_0), (blk_cell BK4.out 0).trans rfl⟩ (fun hHeld => ?_); refine with_tabW eval_match.tab7 eval_match.bits7 (fun HT_ HW_ => ?_)
      clear hcz_0 hcz_1 hcz_2 hcz_4 hcz_5 hcz_7
      generalize WP.drew = w22 at BK112 BK4 BK5 BK7 HB hx115_0 hHeld ⊢
      refine pure_ (i := 0) (N := some 34) (v := ?_) (a' := ?_) #[true, false, false, false, false, false, false, false, false, false, false, false, false] rfl rfl (any_of HT_.out (by kernel_rfl)) (fun _ _ _ h => h) (Or.inl ⟨by rfl, ?_⟩) ?_ ?_
      rotate_left
      ·intro w'
       go_simp
       with_reducible rfl
      rotate_left
      ·simp only [Act.put, List.setIfInBounds_toArray, List.set_cons_zero, List.set_cons_succ, i64_w, i32_w]
       rfl
      refine take_ (i := 1) (N := some 35) (v := ?_) (a' := ?_) #[true, true, false, false, false, false, false, false, false, false, false, false, false] rfl rfl (take_ofW HT_.out HW_.out (by kernel_rfl)) (fun _ _ _ h => h) (Or.inl ⟨by rfl, ?_⟩) hHeld ?_ ?_
      rotate_left
      ·rintro w' ⟨s0, s1, s2, s3, s4⟩
       go_simp
       with_reducible rfl
      rotate_left
      ·simp only [Act.put, List.setIfInBounds_toArray, List.set_cons_zero, List.set_cons_succ, i64_w, i32_w]
       rfl
      refine pure_ (i := 2) (N := some 36) (v := ?_) (a' := ?_) #[true, true, true, false, false, false, false, false, false, false, false, false, false] rfl rfl (any_of HT_.out (by kernel_rfl)) (fun _ _ _ h => h) (Or.inl ⟨by rfl, ?_⟩) ?_ ?_
      rotate_left
      ·intro w'
       go_simp
       with_reducible rfl
      rotate_left
      ·simp only [Act.put, List.setIfInBounds_toArray, List.set_cons_zero, List.set_cons_succ, i64_w, i32_w]
       rfl
      refine pure_ (i := 3) (N := some 37) (v := ?_) (a' := ?_) #[true, true, true, true, false, false, false, false, false, false, false, false, false] rfl rfl (any_of HT_.out (by kernel_rfl)) (fun _ _ _ h => h) (Or.inl ⟨by rfl, ?_⟩) ?_ ?_
      rotate_left
      ·intro w'
       go_simp
       with_reducible rfl
      rotate_left
      ·simp only [Act.put, List.setIfInBounds_toArray, List.set_cons_zero, List.set_cons_succ, i64_w, i32_w]
       rfl
      refine pure_ (i := 4) (N := some 38) (v := ?_) (a' := ?_) #[true, true, true, true, true, false, false, false, false, false, false, false, false] rfl rfl (any_of HT_.out (by kernel_rfl)) (fun _ _ _ h => h) (Or.inl ⟨by rfl, ?_⟩) ?_ ?_
      rotate_left
      ·intro w'
       go_simp
       with_reducible rfl
      rotate_left
      ·simp only [Act.put, List.setIfInBounds_toArray, List.set_cons_zero, List.set_cons_succ, i64_w, i32_w]
       rfl
      refine take_ (i := 5) (N := some 39) (v := ?_) (a' := ?_) #[true, true, true, true, true, true, false, false, false, false, false, false, false] rfl rfl (take_ofW HT_.out HW_.out (by kernel_rfl)) (fun _ _ _ h => h) (Or.inl ⟨by rfl, ?_⟩) hHeld ?_ ?_
      rotate_left
      ·rintro w' ⟨s0, s1, s2, s3, s4⟩
       go_simp
       with_reducible rfl
      rotate_left
      ·simp only [Act.put, List.setIfInBounds_toArray, List.set_cons_zero, List.set_cons_succ, i64_w, i32_w]
       rfl
      refine pure_ (i := 6) (N := some 40) (v := ?_) (a' := ?_) #[true, true, true, true, true, true, true, false, false, false, false, false, false] rfl rfl (any_of HT_.out (by kernel_rfl)) (fun _ _ _ h => h) (Or.inl ⟨by rfl, ?_⟩) ?_ ?_
      rotate_left
      ·intro w'
       go_simp
       with_reducible rfl
      rotate_left
      ·simp only [Act.put, List.setIfInBounds_toArray, List.set_cons_zero, List.set_cons_succ, i64_w, i32_w]
       rfl
      refine take_ (i := 7) (N := some 41) (v := ?_) (a' := ?_) #[true, true, true, true, true, true, true, true, false, false, false, false, false] rfl rfl (take_ofW HT_.out HW_.out (by kernel_rfl)) (fun _ _ _ h => h) (Or.inl ⟨by rfl, ?_⟩) hHeld ?_ ?_
      rotate_left
      ·rintro w' ⟨s0, s1, s2, s3, s4⟩
       go_simp
       with_reducible rfl
      rotate_left
      ·simp only [Act.put, List.setIfInBounds_toArray, List.set_cons_zero, List.set_cons_succ, i64_w, i32_w]
       rfl
      refine pure_ (i := 8) (N := some 42) (v := ?_) (a' := ?_) #[true, true, true, true, true, true, true, true, true, false, false, false, false] rfl rfl (any_of HT_.out (by kernel_rfl)) (fun _ _ _ h => h) (Or.inl ⟨by rfl, ?_⟩) ?_ ?_
      rotate_left
      ·intro w'
       go_simp
       with_reducible rfl
      rotate_left
      ·simp only [Act.put, List.setIfInBounds_toArray, List.set_cons_zero, List.set_cons_succ, i64_w, i32_w]
       rfl
      refine take_ (i := 9) (N := some 43) (v := ?_) (a' := ?_) #[true, true, true, true, true, true, true, true, true, true, false, false, false] rfl rfl (take_ofW HT_.out HW_.out (by kernel_rfl)) (fun _ _ _ h => h) (Or.inl ⟨by rfl, ?_⟩) hHeld ?_ ?_
      rotate_left
      ·rintro w' ⟨s0, s1, s2, s3, s4⟩
       go_simp
       with_reducible rfl
      rotate_left
      ·simp only [Act.put, List.setIfInBounds_toArray, List.set_cons_zero, List.set_cons_succ, i64_w, i32_w]
       rfl
      refine one_ (i := 10) (N := some 44) #[true, true, true, true, true, true, true, true, true, true, true, false, false] rfl rfl (one_of HT_.out (by kernel_rfl)) (by decide) (fun K hK => ?_)
      refine goes_ Try.func39 (by kernel_rfl) rfl #[.string a1, .string (rdOf ByteArray.empty l0_1 0)] (by rfl) rfl rfl (by (try simp only [List.map_toArray, List.map_cons, List.map_nil]); first | done | rfl | (simp only [List.length_drop, List.length_take]; rfl)) ?_
      with_reducible refine (strings_HasPrefix.calls a1 (rdOf ByteArray.empty l0_1 0) t116 _ A19.out).mono ?_
      rintro e w' ⟨rfl, ⟨nd, rfl⟩⟩
      refine ⟨_, rfl, ?_⟩
      refine hK.out _ _ ⟨(blk_cell BK112.out 0).trans rfl, (blk_cell BK112.out 1).trans rfl, (blk_cell BK112.out 2).trans rfl, ((HB.out.cell (World.block_lt_of_cell? w _ hw115_0)).trans hw115_0), (blk_cell BK4.out 0).trans rfl⟩ (fun hHeld => ?_)
      clear hK K
      refine norm_ (a' := ?_) ?_ ?_
      rotate_left
      ·show Act.put _ (some 44) _ = _
       simp only [Act.put, List.setIfInBounds_toArray, List.set_cons_zero, List.set_cons_succ, i64_w, i32_w]
       rfl
      refine pure_ (i := 11) (N := some 45) (v := ?_) (a' := ?_) #[true, true, true, true, true, true, true, true, true, true, true, true, false] rfl rfl (any_of HT_.out (by kernel_rfl)) (fun _ _ _ h => h) (Or.inl ⟨by rfl, ?_⟩) ?_ ?_
      rotate_left
      ·intro w'
       go_simp
       with_reducible rfl
      rotate_left
      ·simp only [Act.put, List.setIfInBounds_toArray, List.set_cons_zero, List.set_cons_succ, i64_w, i32_w]
       rfl
      refine pure_ (i := 12) (N := some 6) (v := ?_) (a' := ?_) #[true, true, true, true, true, true, true, true, true, true, true, true, true] rfl rfl (any_of HT_.out (by kernel_rfl)) (fun _ _ _ h => h) (Or.inl ⟨by rfl, ?_⟩) ?_ ?_
      rotate_left
      ·intro w'
       go_simp
       with_reducible rfl
      rotate_left
      ·simp only [Act.put, List.setIfInBounds_toArray, List.set_cons_zero, List.set_cons_succ, i64_w, i32_w]
       rfl
      refine done_ (done_of HT_.out (by kernel_rfl)) ?_
      try go_wp2
      go_ret
      exact ⟨by first | rfl | (simp [errW_none, errW_some] <;> rfl) | (simp [*, errW_none, errW_some] <;> rfl), by repeat (first | (with_reducible first | exact HB.out | apply below_alloc | apply pw_below_drewN | apply below_drew1 | refine below_set ?_ GE112.out) | exact HB.out)⟩
     ·rw [if_neg c18] at H
      exact absurd H (by simp)
    ·rw [if_neg c17] at H
     have c17b0 : decide (0 < (l0_1.length : Int)) = false := decide_eq_false c17
     have c17b1 : decide (0 < l0_1.length) = false := decide_eq_false (by omega)
     clear c17
     obtain rfl := Option.some.inj H
     go_enter Try.func33, Try.ntmps33
     try go_wp2_with (first
   | ((with_reducible refine gate_dst (N := 3) rfl ?_); refine box_event ?hg (N := 3) ?hd (cs := #[.int .i64 a0_0, .slice A0_1 l0_1.length c0_1, .slice A0_2 l0_2.length c0_2]) (t := 40) ?hr ?_; (case hd => rfl); (case hg => rfl); (case hr => first | (go_simp; done) | (go_simp; rfl)); intro gb112 hg W3 hbox hb; have nb_ := am (below_step HB.out hb); have n_BK112 := am (show w.heap.size ≤ gb112 by rw [hg]; exact below_size HB.out); have BK112 := am hbox; clear HB; have HB := nb_; have GE112 := n_BK112; clear nb_ n_BK112 hb hbox hg)
   | ((with_reducible refine gate_dst (N := 4) rfl ?_); refine box_event ?hg (N := 4) ?hd (cs := #[.string a1]) (t := 9) ?hr ?_; (case hd => rfl); (case hg => rfl); (case hr => first | (go_simp; done) | (go_simp; rfl)); intro g4 hg W4 hbox hb; have nb_ := am (below_step HB.out hb); have n_BK4 := am (show w.heap.size ≤ g4 by rw [hg]; exact below_size HB.out); have m_BK112 := am (blk_below BK112.out hb); clear BK112; have BK112 := m_BK112; clear m_BK112; have BK4 := am hbox; clear HB; have HB := nb_; have GE4 := n_BK4; clear nb_ n_BK4 hb hbox hg)
   | ((with_reducible refine gate_dst (N := 5) rfl ?_); refine box_event ?hg (N := 5) ?hd (cs := #[.int .i64 a2]) (t := 3) ?hr ?_; (case hd => rfl); (case hg => rfl); (case hr => first | (go_simp; done) | (go_simp; rfl)); intro g5 hg W5 hbox hb; have nb_ := am (below_step HB.out hb); have n_BK5 := am (show w.heap.size ≤ g5 by rw [hg]; exact below_size HB.out); have m_BK112 := am (blk_below BK112.out hb); clear BK112; have BK112 := m_BK112; clear m_BK112; have m_BK4 := am (blk_below BK4.out hb); clear BK4; have BK4 := m_BK4; clear m_BK4; have BK5 := am hbox; clear HB; have HB := nb_; have GE5 := n_BK5; clear nb_ n_BK5 hb hbox hg)
   | ((with_reducible refine gate_dst (N := 7) rfl ?_); refine box_event ?hg (N := 7) ?hd (cs := #[.nilFunc]) (t := 59) ?hr ?_; (case hd => rfl); (case hg => rfl); (case hr => first | (go_simp; done) | (go_simp; rfl)); intro g7 hg W7 hbox hb; have nb_ := am (below_step HB.out hb); have n_BK7 := am (show w.heap.size ≤ g7 by rw [hg]; exact below_size HB.out); have m_BK112 := am (blk_below BK112.out hb); clear BK112; have BK112 := m_BK112; clear m_BK112; have m_BK4 := am (blk_below BK4.out hb); clear BK4; have BK4 := m_BK4; clear m_BK4; have m_BK5 := am (blk_below BK5.out hb); clear BK5; have BK5 := m_BK5; clear m_BK5; have BK7 := am hbox; clear HB; have HB := nb_; have GE7 := n_BK7; clear nb_ n_BK7 hb hbox hg; have hz7 : W7.cell? ⟨g7, 0, none⟩ = some .nilFunc := (blk_cell BK7.out 0).trans rfl; have hf7 := blk_frozen BK7.out 0)
   | ((with_reducible refine gate_store (t := 59) (p := 7) rfl ?_); refine store_event (t := 59) (p := 7) (v := .tmp 10) (w1 := W7.setCell ⟨g7, 0, none⟩ (.func (.func 37) #[] #[.pointer (some ⟨g4, 0, none⟩), .pointer (some ⟨g5, 0, none⟩)])) ?hg ?ho ?hn ?hr ?_; (case ho => rfl); (case hg => rfl); (case hn => rfl); (case hr => first | (go_simp; done) | (go_simp; rfl)); intro WP hw; have m1 : Aside0 (WP.heap[g7]? = some (.cells #[(.func (.func 37) #[] #[.pointer (some ⟨g4, 0, none⟩), .pointer (some ⟨g5, 0, none⟩)])] 59 (0, 0))) := ⟨by rw [hw]; exact blk_put BK7.out 0 _ rfl⟩; have m2 : Aside0 (WP.heap[gb112]? = some (.cells #[.int .i64 a0_0, .slice A0_1 l0_1.length c0_1, .slice A0_2 l0_2.length c0_2] 40 (0, 0))) := ⟨by rw [hw]; exact blk_far BK112.out (blk_ne BK112.out BK7.out (by decide)) _⟩; have m3 : Aside0 (WP.heap[g4]? = some (.cells #[.string a1] 9 (0, 0))) := ⟨by rw [hw]; exact blk_far BK4.out (blk_ne BK4.out BK7.out (by decide)) _⟩; have m4 : Aside0 (WP.heap[g5]? = some (.cells #[.int .i64 a2] 3 (0, 0))) := ⟨by rw [hw]; exact blk_far BK5.out (blk_ne BK5.out BK7.out (by decide)) _⟩; have m5 : Aside0 (Below w.heap.size w WP) := ⟨by rw [hw]; exact below_set HB.out GE7.out⟩; clear BK7 BK112 BK4 BK5 HB hz7 hf7 hw; have BK7 := m1; have BK112 := m2; have BK4 := m3; have BK5 := m4; have HB := m5; clear m1 m2 m3 m4 m5; have hcz_0 : WP.cell? ⟨gb112, 0, none⟩ = some (.int .i64 a0_0) := (blk_cell BK112.out 0).trans rfl; have hcz_1 : WP.cell? ⟨gb112, 1, none⟩ = some (.slice A0_1 l0_1.length c0_1) := (blk_cell BK112.out 1).trans rfl; have hcz_2 : WP.cell? ⟨gb112, 2, none⟩ = some (.slice A0_2 l0_2.length c0_2) := (blk_cell BK112.out 2).trans rfl; have hcz_4 : WP.cell? ⟨g4, 0, none⟩ = some (.string a1) := (blk_cell BK4.out 0).trans rfl; have hcz_5 : WP.cell? ⟨g5, 0, none⟩ = some (.int .i64 a2) := (blk_cell BK5.out 0).trans rfl; have hcz_7 : WP.cell? ⟨g7, 0, none⟩ = some (.func (.func 37) #[] #[.pointer (some ⟨g4, 0, none⟩), .pointer (some ⟨g5, 0, none⟩)]) := (blk_cell BK7.out 0).trans rfl))
     replace BK112 := am (blk_drew BK112.out)
     replace HB := am (below_drew1 HB.out)
     have m_ := am (blk_drew BK4.out)
     clear BK4
     have BK4 := m_
     clear m_
     have m_ := am (blk_drew BK5.out)
     clear BK5
     have BK5 := m_
     clear m_
     have m_ := am (blk_drew BK7.out)
     clear BK7
     have BK7 := m_
     clear m_
     refine start_ (n := 13) (S := fun w' => w'.cell? ⟨gb112, 0, none⟩ = some (.int .i64 a0_0) ∧ w'.cell? ⟨gb112, 1, none⟩ = some (.slice A0_1 l0_1.length c0_1) ∧ w'.cell? ⟨gb112, 2, none⟩ = some (.slice A0_2 l0_2.length c0_2) ∧ w'.cell? ⟨g4, 0, none⟩ = some (.string a1)) (ds := []) #[false, false, false, false, false, false, false, false, false, false, false, false, false] (by kernel_rfl) rfl rfl ⟨(blk_cell BK112.out 0).trans rfl, (blk_cell BK112.out 1).trans rfl, (blk_cell BK112.out 2).trans rfl, (blk_cell BK4.out 0).trans rfl⟩ (fun hHeld => ?_); refine with_tabW eval_match.tab7 eval_match.bits7 (fun HT_ HW_ => ?_)
     clear hcz_0 hcz_1 hcz_2 hcz_4 hcz_5 hcz_7
     generalize WP.drew = w25 at BK112 BK4 BK5 BK7 HB hHeld ⊢
     refine pure_ (i := 0) (N := some 34) (v := ?_) (a' := ?_) #[true, false, false, false, false, false, false, false, false, false, false, false, false] rfl rfl (any_of HT_.out (by kernel_rfl)) (fun _ _ _ h => h) (Or.inl ⟨by rfl, ?_⟩) ?_ ?_
     rotate_left
     ·intro w'
      go_simp
      with_reducible rfl
     rotate_left
     ·simp only [Act.put, List.setIfInBounds_toArray, List.set_cons_zero, List.set_cons_succ, i64_w, i32_w]
      rfl
     refine take_ (i := 1) (N := some 35) (v := ?_) (a' := ?_) #[true, true, false, false, false, false, false, false, false, false, false, false, false] rfl rfl (take_ofW HT_.out HW_.out (by kernel_rfl)) (fun _ _ _ h => h) (Or.inl ⟨by rfl, ?_⟩) hHeld ?_ ?_
     rotate_left
     ·rintro w' ⟨s0, s1, s2, s3⟩
      go_simp
      with_reducible rfl
     rotate_left
     ·simp only [Act.put, List.setIfInBounds_toArray, List.set_cons_zero, List.set_cons_succ, i64_w, i32_w]
      rfl
     refine pure_ (i := 2) (N := some 36) (v := ?_) (a' := ?_) #[true, true, true, false, false, false, false, false, false, false, false, false, false] rfl rfl (any_of HT_.out (by kernel_rfl)) (fun _ _ _ h => h) (Or.inl ⟨by rfl, ?_⟩) ?_ ?_
     rotate_left
     ·intro w'
      go_simp
      with_reducible rfl
     rotate_left
     ·simp only [Act.put, List.setIfInBounds_toArray, List.set_cons_zero, List.set_cons_succ, i64_w, i32_w]
      rfl
     refine pure_ (i := 3) (N := some 37) (v := ?_) (a' := ?_) #[true, true, true, true, false, false, false, false, false, false, false, false, false] rfl rfl (any_of HT_.out (by kernel_rfl)) (fun _ _ _ h => h) (Or.inl ⟨by rfl, ?_⟩) ?_ ?_
     rotate_left
     ·intro w'
      go_simp
      with_reducible rfl
     rotate_left
     ·simp only [Act.put, List.setIfInBounds_toArray, List.set_cons_zero, List.set_cons_succ, i64_w, i32_w]
      rfl
     refine pure_ (i := 4) (N := some 38) (v := ?_) (a' := ?_) #[true, true, true, true, true, false, false, false, false, false, false, false, false] rfl rfl (any_of HT_.out (by kernel_rfl)) (fun _ _ _ h => h) (Or.inl ⟨by rfl, ?_⟩) ?_ ?_
     rotate_left
     ·intro w'
      go_simp
      with_reducible rfl
     rotate_left
     ·simp only [Act.put, List.setIfInBounds_toArray, List.set_cons_zero, List.set_cons_succ, i64_w, i32_w]
      rfl
     refine pure_ (i := 5) (N := some 39) (v := undef) (a' := ?_) #[true, true, true, true, true, true, false, false, false, false, false, false, false] rfl rfl (any_of HT_.out (by kernel_rfl)) (fun _ _ _ h => h) (Or.inr ⟨by rfl, rfl⟩) ?_ ?_
     rotate_left
     ·simp only [Act.put, List.setIfInBounds_toArray, List.set_cons_zero, List.set_cons_succ, i64_w, i32_w]
      rfl
     refine pure_ (i := 6) (N := some 40) (v := undef) (a' := ?_) #[true, true, true, true, true, true, true, false, false, false, false, false, false] rfl rfl (any_of HT_.out (by kernel_rfl)) (fun _ _ _ h => h) (Or.inr ⟨by rfl, rfl⟩) ?_ ?_
     rotate_left
     ·simp only [Act.put, List.setIfInBounds_toArray, List.set_cons_zero, List.set_cons_succ, i64_w, i32_w]
      rfl
     refine pure_ (i := 7) (N := some 41) (v := undef) (a' := ?_) #[true, true, true, true, true, true, true, true, false, false, false, false, false] rfl rfl (any_of HT_.out (by kernel_rfl)) (fun _ _ _ h => h) (Or.inr ⟨by rfl, rfl⟩) ?_ ?_
     rotate_left
     ·simp only [Act.put, List.setIfInBounds_toArray, List.set_cons_zero, List.set_cons_succ, i64_w, i32_w]
      rfl
     refine pure_ (i := 8) (N := some 42) (v := undef) (a' := ?_) #[true, true, true, true, true, true, true, true, true, false, false, false, false] rfl rfl (any_of HT_.out (by kernel_rfl)) (fun _ _ _ h => h) (Or.inr ⟨by rfl, rfl⟩) ?_ ?_
     rotate_left
     ·simp only [Act.put, List.setIfInBounds_toArray, List.set_cons_zero, List.set_cons_succ, i64_w, i32_w]
      rfl
     refine pure_ (i := 9) (N := some 43) (v := undef) (a' := ?_) #[true, true, true, true, true, true, true, true, true, true, false, false, false] rfl rfl (any_of HT_.out (by kernel_rfl)) (fun _ _ _ h => h) (Or.inr ⟨by rfl, rfl⟩) ?_ ?_
     rotate_left
     ·simp only [Act.put, List.setIfInBounds_toArray, List.set_cons_zero, List.set_cons_succ, i64_w, i32_w]
      rfl
     refine pure_ (i := 10) (N := some 44) (v := undef) (a' := ?_) #[true, true, true, true, true, true, true, true, true, true, true, false, false] rfl rfl (any_of HT_.out (by kernel_rfl)) (fun _ _ _ h => h) (Or.inr ⟨by rfl, rfl⟩) ?_ ?_
     rotate_left
     ·simp only [Act.put, List.setIfInBounds_toArray, List.set_cons_zero, List.set_cons_succ, i64_w, i32_w]
      rfl
     refine pure_ (i := 11) (N := some 45) (v := ?_) (a' := ?_) #[true, true, true, true, true, true, true, true, true, true, true, true, false] rfl rfl (any_of HT_.out (by kernel_rfl)) (fun _ _ _ h => h) (Or.inl ⟨by rfl, ?_⟩) ?_ ?_
     rotate_left
     ·intro w'
      go_simp
      with_reducible rfl
     rotate_left
     ·simp only [Act.put, List.setIfInBounds_toArray, List.set_cons_zero, List.set_cons_succ, i64_w, i32_w]
      rfl
     refine pure_ (i := 12) (N := some 6) (v := ?_) (a' := ?_) #[true, true, true, true, true, true, true, true, true, true, true, true, true] rfl rfl (any_of HT_.out (by kernel_rfl)) (fun _ _ _ h => h) (Or.inl ⟨by rfl, ?_⟩) ?_ ?_
     rotate_left
     ·intro w'
      go_simp
      with_reducible rfl
     rotate_left
     ·simp only [Act.put, List.setIfInBounds_toArray, List.set_cons_zero, List.set_cons_succ, i64_w, i32_w]
      rfl
     refine done_ (done_of HT_.out (by kernel_rfl)) ?_
     try go_wp2
     go_ret
     exact ⟨by first | rfl | (simp [errW_none, errW_some] <;> rfl) | (simp [*, errW_none, errW_some] <;> rfl), by repeat (first | (with_reducible first | exact HB.out | apply below_alloc | apply pw_below_drewN | apply below_drew1 | refine below_set ?_ GE112.out) | exact HB.out)⟩
   ·rw [if_neg c16] at H
    have c16b0 : (a0_0 == 2) = false := beq_eq_false_iff_ne.mpr c16
    have c16b1 : (a0_0 != 2) = true := bne_iff_ne.mpr c16
    by_cases c26 : a0_0 = 3
    ·rw [if_pos c26] at H
     have c26b0 : (a0_0 == 3) = true := beq_iff_eq.mpr c26
     have c26b1 : (a0_0 != 3) = false := bne_eq_false_iff_eq.mpr c26
     clear c26
     replace H := Option.bind_eq_some_iff.mp H
     obtain ⟨⟨t117, t118⟩, A270, H⟩ := H
     replace H : (some t118) = some r := H
     have A27 := am A270
     clear A270
     obtain rfl := Option.some.inj H
     go_enter Try.func33, Try.ntmps33
     go_wp2_with (first
   | ((with_reducible refine gate_dst (N := 3) rfl ?_); refine box_event ?hg (N := 3) ?hd (cs := #[.int .i64 a0_0, .slice A0_1 l0_1.length c0_1, .slice A0_2 l0_2.length c0_2]) (t := 40) ?hr ?_; (case hd => rfl); (case hg => rfl); (case hr => first | (go_simp; done) | (go_simp; rfl)); intro gb112 hg W3 hbox hb; have nb_ := am (below_step HB.out hb); have n_BK112 := am (show w.heap.size ≤ gb112 by rw [hg]; exact below_size HB.out); have BK112 := am hbox; clear HB; have HB := nb_; have GE112 := n_BK112; clear nb_ n_BK112 hb hbox hg)
   | ((with_reducible refine gate_dst (N := 4) rfl ?_); refine box_event ?hg (N := 4) ?hd (cs := #[.string a1]) (t := 9) ?hr ?_; (case hd => rfl); (case hg => rfl); (case hr => first | (go_simp; done) | (go_simp; rfl)); intro g4 hg W4 hbox hb; have nb_ := am (below_step HB.out hb); have n_BK4 := am (show w.heap.size ≤ g4 by rw [hg]; exact below_size HB.out); have m_BK112 := am (blk_below BK112.out hb); clear BK112; have BK112 := m_BK112; clear m_BK112; have BK4 := am hbox; clear HB; have HB := nb_; have GE4 := n_BK4; clear nb_ n_BK4 hb hbox hg)
   | ((with_reducible refine gate_dst (N := 5) rfl ?_); refine box_event ?hg (N := 5) ?hd (cs := #[.int .i64 a2]) (t := 3) ?hr ?_; (case hd => rfl); (case hg => rfl); (case hr => first | (go_simp; done) | (go_simp; rfl)); intro g5 hg W5 hbox hb; have nb_ := am (below_step HB.out hb); have n_BK5 := am (show w.heap.size ≤ g5 by rw [hg]; exact below_size HB.out); have m_BK112 := am (blk_below BK112.out hb); clear BK112; have BK112 := m_BK112; clear m_BK112; have m_BK4 := am (blk_below BK4.out hb); clear BK4; have BK4 := m_BK4; clear m_BK4; have BK5 := am hbox; clear HB; have HB := nb_; have GE5 := n_BK5; clear nb_ n_BK5 hb hbox hg)
   | ((with_reducible refine gate_dst (N := 7) rfl ?_); refine box_event ?hg (N := 7) ?hd (cs := #[.nilFunc]) (t := 59) ?hr ?_; (case hd => rfl); (case hg => rfl); (case hr => first | (go_simp; done) | (go_simp; rfl)); intro g7 hg W7 hbox hb; have nb_ := am (below_step HB.out hb); have n_BK7 := am (show w.heap.size ≤ g7 by rw [hg]; exact below_size HB.out); have m_BK112 := am (blk_below BK112.out hb); clear BK112; have BK112 := m_BK112; clear m_BK112; have m_BK4 := am (blk_below BK4.out hb); clear BK4; have BK4 := m_BK4; clear m_BK4; have m_BK5 := am (blk_below BK5.out hb); clear BK5; have BK5 := m_BK5; clear m_BK5; have BK7 := am hbox; clear HB; have HB := nb_; have GE7 := n_BK7; clear nb_ n_BK7 hb hbox hg; have hz7 : W7.cell? ⟨g7, 0, none⟩ = some .nilFunc := (blk_cell BK7.out 0).trans rfl; have hf7 := blk_frozen BK7.out 0)
   | ((with_reducible refine gate_store (t := 59) (p := 7) rfl ?_); refine store_event (t := 59) (p := 7) (v := .tmp 10) (w1 := W7.setCell ⟨g7, 0, none⟩ (.func (.func 37) #[] #[.pointer (some ⟨g4, 0, none⟩), .pointer (some ⟨g5, 0, none⟩)])) ?hg ?ho ?hn ?hr ?_; (case ho => rfl); (case hg => rfl); (case hn => rfl); (case hr => first | (go_simp; done) | (go_simp; rfl)); intro WP hw; have m1 : Aside0 (WP.heap[g7]? = some (.cells #[(.func (.func 37) #[] #[.pointer (some ⟨g4, 0, none⟩), .pointer (some ⟨g5, 0, none⟩)])] 59 (0, 0))) := ⟨by rw [hw]; exact blk_put BK7.out 0 _ rfl⟩; have m2 : Aside0 (WP.heap[gb112]? = some (.cells #[.int .i64 a0_0, .slice A0_1 l0_1.length c0_1, .slice A0_2 l0_2.length c0_2] 40 (0, 0))) := ⟨by rw [hw]; exact blk_far BK112.out (blk_ne BK112.out BK7.out (by decide)) _⟩; have m3 : Aside0 (WP.heap[g4]? = some (.cells #[.string a1] 9 (0, 0))) := ⟨by rw [hw]; exact blk_far BK4.out (blk_ne BK4.out BK7.out (by decide)) _⟩; have m4 : Aside0 (WP.heap[g5]? = some (.cells #[.int .i64 a2] 3 (0, 0))) := ⟨by rw [hw]; exact blk_far BK5.out (blk_ne BK5.out BK7.out (by decide)) _⟩; have m5 : Aside0 (Below w.heap.size w WP) := ⟨by rw [hw]; exact below_set HB.out GE7.out⟩; clear BK7 BK112 BK4 BK5 HB hz7 hf7 hw; have BK7 := m1; have BK112 := m2; have BK4 := m3; have BK5 := m4; have HB := m5; clear m1 m2 m3 m4 m5; have hcz_0 : WP.cell? ⟨gb112, 0, none⟩ = some (.int .i64 a0_0) := (blk_cell BK112.out 0).trans rfl; have hcz_1 : WP.cell? ⟨gb112, 1, none⟩ = some (.slice A0_1 l0_1.length c0_1) := (blk_cell BK112.out 1).trans rfl; have hcz_2 : WP.cell? ⟨gb112, 2, none⟩ = some (.slice A0_2 l0_2.length c0_2) := (blk_cell BK112.out 2).trans rfl; have hcz_4 : WP.cell? ⟨g4, 0, none⟩ = some (.string a1) := (blk_cell BK4.out 0).trans rfl; have hcz_5 : WP.cell? ⟨g5, 0, none⟩ = some (.int .i64 a2) := (blk_cell BK5.out 0).trans rfl; have hcz_7 : WP.cell? ⟨g7, 0, none⟩ = some (.func (.func 37) #[] #[.pointer (some ⟨g4, 0, none⟩), .pointer (some ⟨g5, 0, none⟩)]) := (blk_cell BK7.out 0).trans rfl)
   | ((with_reducible refine gate_callee (f := 23) rfl ?_); refine goesL_ (some 54) rfl rfl Try.func23 (by kernel_rfl) rfl #[.slice A0_1 l0_1.length c0_1, .string a1] rfl (by (try simp only [List.map_toArray, List.map_cons, List.map_nil]); first | done | rfl | (simp only [List.length_drop, List.length_take]; rfl)) ?_; (with_reducible refine (eval_Find.calls k _ _ l0_1 a1 t117 t118 _ ?side1 ?side2 ?side3 A27.out).mono ?_); (case side1 => first | exact GlobOk.below HG.out (by repeat first | exact lU HB.out | refine below_set ?_ GE112.out | apply below_alloc | apply pw_below_drewN | apply below_drew1) | (repeat (first | exact HG.out | (with_reducible refine GlobOk.alloc ?_ _) | (with_reducible refine GlobOk.drewN ?_ _) | (with_reducible refine GlobOk.drew ?_)))); (case side2 => repeat (first | exact (Kd.C_below HR0_1.out HB.out) | (with_reducible refine Kd.C_alloc ?_ _) | (with_reducible refine Kd.C_drewN ?_ _) | (with_reducible refine Kd.C_drew ?_))); (case side3 => exact HC0_1.out); rintro e w30 ⟨v119, rfl, ho0, hb⟩; refine ⟨_, rfl, ?_⟩; have HO120 := am (Kd.R_lower ho0 (below_size (by repeat first | exact lU HB.out | refine below_set ?_ GE112.out | apply below_alloc | apply pw_below_drewN | apply below_drew1))); replace BK112 := am (blk_below (bU BK112.out) hb); replace HB := am (below_step (by repeat first | exact lU HB.out | refine below_set ?_ GE112.out | apply below_alloc | apply pw_below_drewN | apply below_drew1) hb); (try clear hb); (try clear hb2); (try clear hk); (try clear hi); (try clear ho0)))
     go_ret
     exact ⟨by first | rfl | (simp [errW_none, errW_some] <;> rfl) | (simp [*, errW_none, errW_some] <;> rfl), by repeat (first | (with_reducible first | exact HB.out | apply below_alloc | apply pw_below_drewN | apply below_drew1 | refine below_set ?_ GE112.out) | exact HB.out)⟩
    ·rw [if_neg c26] at H
     have c26b0 : (a0_0 == 3) = false := beq_eq_false_iff_ne.mpr c26
     have c26b1 : (a0_0 != 3) = true := bne_iff_ne.mpr c26
     by_cases c31 : a0_0 = 4
     ·rw [if_pos c31] at H
      have c31b0 : (a0_0 == 4) = true := beq_iff_eq.mpr c31
      have c31b1 : (a0_0 != 4) = false := bne_eq_false_iff_eq.mpr c31
      clear c31
      replace H := Option.bind_eq_some_iff.mp H
      obtain ⟨t121, A320, H⟩ := H
      replace H : (some (!t121)) = some r := H
      have A32 := am A320
      clear A320
      obtain rfl := Option.some.inj H
      go_enter Try.func33, Try.ntmps33
      go_wp2_with (first
   | ((with_reducible refine gate_dst (N := 3) rfl ?_); refine box_event ?hg (N := 3) ?hd (cs := #[.int .i64 a0_0, .slice A0_1 l0_1.length c0_1, .slice A0_2 l0_2.length c0_2]) (t := 40) ?hr ?_; (case hd => rfl); (case hg => rfl); (case hr => first | (go_simp; done) | (go_simp; rfl)); intro gb112 hg W3 hbox hb; have nb_ := am (below_step HB.out hb); have n_BK112 := am (show w.heap.size ≤ gb112 by rw [hg]; exact below_size HB.out); have BK112 := am hbox; clear HB; have HB := nb_; have GE112 := n_BK112; clear nb_ n_BK112 hb hbox hg)
   | ((with_reducible refine gate_dst (N := 4) rfl ?_); refine box_event ?hg (N := 4) ?hd (cs := #[.string a1]) (t := 9) ?hr ?_; (case hd => rfl); (case hg => rfl); (case hr => first | (go_simp; done) | (go_simp; rfl)); intro g4 hg W4 hbox hb; have nb_ := am (below_step HB.out hb); have n_BK4 := am (show w.heap.size ≤ g4 by rw [hg]; exact below_size HB.out); have m_BK112 := am (blk_below BK112.out hb); clear BK112; have BK112 := m_BK112; clear m_BK112; have BK4 := am hbox; clear HB; have HB := nb_; have GE4 := n_BK4; clear nb_ n_BK4 hb hbox hg)
   | ((with_reducible refine gate_dst (N := 5) rfl ?_); refine box_event ?hg (N := 5) ?hd (cs := #[.int .i64 a2]) (t := 3) ?hr ?_; (case hd => rfl); (case hg => rfl); (case hr => first | (go_simp; done) | (go_simp; rfl)); intro g5 hg W5 hbox hb; have nb_ := am (below_step HB.out hb); have n_BK5 := am (show w.heap.size ≤ g5 by rw [hg]; exact below_size HB.out); have m_BK112 := am (blk_below BK112.out hb); clear BK112; have BK112 := m_BK112; clear m_BK112; have m_BK4 := am (blk_below BK4.out hb); clear BK4; have BK4 := m_BK4; clear m_BK4; have BK5 := am hbox; clear HB; have HB := nb_; have GE5 := n_BK5; clear nb_ n_BK5 hb hbox hg)
   | ((with_reducible refine gate_dst (N := 7) rfl ?_); refine box_event ?hg (N := 7) ?hd (cs := #[.nilFunc]) (t := 59) ?hr ?_; (case hd => rfl); (case hg => rfl); (case hr => first | (go_simp; done) | (go_simp; rfl)); intro g7 hg W7 hbox hb; have nb_ := am (below_step HB.out hb); have n_BK7 := am (show w.heap.size ≤ g7 by rw [hg]; exact below_size HB.out); have m_BK112 := am (blk_below BK112.out hb); clear BK112; have BK112 := m_BK112; clear m_BK112; have m_BK4 := am (blk_below BK4.out hb); clear BK4; have BK4 := m_BK4; clear m_BK4; have m_BK5 := am (blk_below BK5.out hb); clear BK5; have BK5 := m_BK5; clear m_BK5; have BK7 := am hbox; clear HB; have HB := nb_; have GE7 := n_BK7; clear nb_ n_BK7 hb hbox hg; have hz7 : W7.cell? ⟨g7, 0, none⟩ = some .nilFunc := (blk_cell BK7.out 0).trans rfl; have hf7 := blk_frozen BK7.out 0)
   | ((with_reducible refine gate_store (t := 59) (p := 7) rfl ?_); refine store_event (t := 59) (p := 7) (v := .tmp 10) (w1 := W7.setCell ⟨g7, 0, none⟩ (.func (.func 37) #[] #[.pointer (some ⟨g4, 0, none⟩), .pointer (some ⟨g5, 0, none⟩)])) ?hg ?ho ?hn ?hr ?_; (case ho => rfl); (case hg => rfl); (case hn => rfl); (case hr => first | (go_simp; done) | (go_simp; rfl)); intro WP hw; have m1 : Aside0 (WP.heap[g7]? = some (.cells #[(.func (.func 37) #[] #[.pointer (some ⟨g4, 0, none⟩), .pointer (some ⟨g5, 0, none⟩)])] 59 (0, 0))) := ⟨by rw [hw]; exact blk_put BK7.out 0 _ rfl⟩; have m2 : Aside0 (WP.heap[gb112]? = some (.cells #[.int .i64 a0_0, .slice A0_1 l0_1.length c0_1, .slice A0_2 l0_2.length c0_2] 40 (0, 0))) := ⟨by rw [hw]; exact blk_far BK112.out (blk_ne BK112.out BK7.out (by decide)) _⟩; have m3 : Aside0 (WP.heap[g4]? = some (.cells #[.string a1] 9 (0, 0))) := ⟨by rw [hw]; exact blk_far BK4.out (blk_ne BK4.out BK7.out (by decide)) _⟩; have m4 : Aside0 (WP.heap[g5]? = some (.cells #[.int .i64 a2] 3 (0, 0))) := ⟨by rw [hw]; exact blk_far BK5.out (blk_ne BK5.out BK7.out (by decide)) _⟩; have m5 : Aside0 (Below w.heap.size w WP) := ⟨by rw [hw]; exact below_set HB.out GE7.out⟩; clear BK7 BK112 BK4 BK5 HB hz7 hf7 hw; have BK7 := m1; have BK112 := m2; have BK4 := m3; have BK5 := m4; have HB := m5; clear m1 m2 m3 m4 m5; have hcz_0 : WP.cell? ⟨gb112, 0, none⟩ = some (.int .i64 a0_0) := (blk_cell BK112.out 0).trans rfl; have hcz_1 : WP.cell? ⟨gb112, 1, none⟩ = some (.slice A0_1 l0_1.length c0_1) := (blk_cell BK112.out 1).trans rfl; have hcz_2 : WP.cell? ⟨gb112, 2, none⟩ = some (.slice A0_2 l0_2.length c0_2) := (blk_cell BK112.out 2).trans rfl; have hcz_4 : WP.cell? ⟨g4, 0, none⟩ = some (.string a1) := (blk_cell BK4.out 0).trans rfl; have hcz_5 : WP.cell? ⟨g5, 0, none⟩ = some (.int .i64 a2) := (blk_cell BK5.out 0).trans rfl; have hcz_7 : WP.cell? ⟨g7, 0, none⟩ = some (.func (.func 37) #[] #[.pointer (some ⟨g4, 0, none⟩), .pointer (some ⟨g5, 0, none⟩)]) := (blk_cell BK7.out 0).trans rfl)
   | ((with_reducible refine gate_callee (f := 40) rfl ?_); refine goesL_ (some 65) rfl rfl Try.func40 (by kernel_rfl) rfl #[.slice A0_2 l0_2.length c0_2, .func (.func 41) #[] #[.pointer (some ⟨g7, 0, none⟩)]] rfl (by (try simp only [List.map_toArray, List.map_cons, List.map_nil]); first | done | rfl | (simp only [List.length_drop, List.length_take]; rfl)) ?_; (refine (eval_match.anw _ 41 #[.pointer (some ⟨g7, 0, none⟩)] enters41 k _ _ l0_2 t121 _ (eval_match.notkid _ _ g7 _ ((blk_cell BK7.out 0).trans rfl) (eval_match.kid k IHH.out a1 a2 g4 g5 _ ((blk_cell BK4.out 0).trans rfl) ((blk_cell BK5.out 0).trans rfl))) ?side1 ?side2 ?side3 A32.out).mono ?_); (case side1 => first | exact GlobOk.below HG.out (by repeat first | exact lU HB.out | refine below_set ?_ GE112.out | apply below_alloc | apply pw_below_drewN | apply below_drew1) | (repeat (first | exact HG.out | (with_reducible refine GlobOk.alloc ?_ _) | (with_reducible refine GlobOk.drewN ?_ _) | (with_reducible refine GlobOk.drew ?_)))); (case side2 => repeat (first | exact (Kd.C_below HR0_2.out HB.out) | (with_reducible refine Kd.C_alloc ?_ _) | (with_reducible refine Kd.C_drewN ?_ _) | (with_reducible refine Kd.C_drew ?_))); (case side3 => exact HC0_2.out); rintro e w35 ⟨rfl, hb⟩; refine ⟨_, rfl, ?_⟩; replace BK112 := am (blk_below (bU BK112.out) hb); replace HB := am (below_step (by repeat first | exact lU HB.out | refine below_set ?_ GE112.out | apply below_alloc | apply pw_below_drewN | apply below_drew1) hb); (try clear hb); (try clear hb2); (try clear hk); (try clear hi)))
      go_ret
      exact ⟨by first | rfl | (simp [errW_none, errW_some] <;> rfl) | (simp [*, errW_none, errW_some] <;> rfl), by repeat (first | (with_reducible first | exact HB.out | apply below_alloc | apply pw_below_drewN | apply below_drew1 | refine below_set ?_ GE112.out) | exact HB.out)⟩
     ·rw [if_neg c31] at H
      have c31b0 : (a0_0 == 4) = false := beq_eq_false_iff_ne.mpr c31
      have c31b1 : (a0_0 != 4) = true := bne_iff_ne.mpr c31
      by_cases c36 : a0_0 = 5
      ·rw [if_pos c36] at H
       have c36b0 : (a0_0 == 5) = true := beq_iff_eq.mpr c36
       have c36b1 : (a0_0 != 5) = false := bne_eq_false_iff_eq.mpr c36
       clear c36
       replace H := Option.bind_eq_some_iff.mp H
       obtain ⟨t122, A370, H⟩ := H
       replace H : (some t122) = some r := H
       have A37 := am A370
       clear A370
       obtain rfl := Option.some.inj H
       go_enter Try.func33, Try.ntmps33
       go_wp2_with (first
   | ((with_reducible refine gate_dst (N := 3) rfl ?_); refine box_event ?hg (N := 3) ?hd (cs := #[.int .i64 a0_0, .slice A0_1 l0_1.length c0_1, .slice A0_2 l0_2.length c0_2]) (t := 40) ?hr ?_; (case hd => rfl); (case hg => rfl); (case hr => first | (go_simp; done) | (go_simp; rfl)); intro gb112 hg W3 hbox hb; have nb_ := am (below_step HB.out hb); have n_BK112 := am (show w.heap.size ≤ gb112 by rw [hg]; exact below_size HB.out); have BK112 := am hbox; clear HB; have HB := nb_; have GE112 := n_BK112; clear nb_ n_BK112 hb hbox hg)
   | ((with_reducible refine gate_dst (N := 4) rfl ?_); refine box_event ?hg (N := 4) ?hd (cs := #[.string a1]) (t := 9) ?hr ?_; (case hd => rfl); (case hg => rfl); (case hr => first | (go_simp; done) | (go_simp; rfl)); intro g4 hg W4 hbox hb; have nb_ := am (below_step HB.out hb); have n_BK4 := am (show w.heap.size ≤ g4 by rw [hg]; exact below_size HB.out); have m_BK112 := am (blk_below BK112.out hb); clear BK112; have BK112 := m_BK112; clear m_BK112; have BK4 := am hbox; clear HB; have HB := nb_; have GE4 := n_BK4; clear nb_ n_BK4 hb hbox hg)
   | ((with_reducible refine gate_dst (N := 5) rfl ?_); refine box_event ?hg (N := 5) ?hd (cs := #[.int .i64 a2]) (t := 3) ?hr ?_; (case hd => rfl); (case hg => rfl); (case hr => first | (go_simp; done) | (go_simp; rfl)); intro g5 hg W5 hbox hb; have nb_ := am (below_step HB.out hb); have n_BK5 := am (show w.heap.size ≤ g5 by rw [hg]; exact below_size HB.out); have m_BK112 := am (blk_below BK112.out hb); clear BK112; have BK112 := m_BK112; clear m_BK112; have m_BK4 := am (blk_below BK4.out hb); clear BK4; have BK4 := m_BK4; clear m_BK4; have BK5 := am hbox; clear HB; have HB := nb_; have GE5 := n_BK5; clear nb_ n_BK5 hb hbox hg)
   | ((with_reducible refine gate_dst (N := 7) rfl ?_); refine box_event ?hg (N := 7) ?hd (cs := #[.nilFunc]) (t := 59) ?hr ?_; (case hd => rfl); (case hg => rfl); (case hr => first | (go_simp; done) | (go_simp; rfl)); intro g7 hg W7 hbox hb; have nb_ := am (below_step HB.out hb); have n_BK7 := am (show w.heap.size ≤ g7 by rw [hg]; exact below_size HB.out); have m_BK112 := am (blk_below BK112.out hb); clear BK112; have BK112 := m_BK112; clear m_BK112; have m_BK4 := am (blk_below BK4.out hb); clear BK4; have BK4 := m_BK4; clear m_BK4; have m_BK5 := am (blk_below BK5.out hb); clear BK5; have BK5 := m_BK5; clear m_BK5; have BK7 := am hbox; clear HB; have HB := nb_; have GE7 := n_BK7; clear nb_ n_BK7 hb hbox hg; have hz7 : W7.cell? ⟨g7, 0, none⟩ = some .nilFunc := (blk_cell BK7.out 0).trans rfl; have hf7 := blk_frozen BK7.out 0)
   | ((with_reducible refine gate_store (t := 59) (p := 7) rfl ?_); refine store_event (t := 59) (p := 7) (v := .tmp 10) (w1 := W7.setCell ⟨g7, 0, none⟩ (.func (.func 37) #[] #[.pointer (some ⟨g4, 0, none⟩), .pointer (some ⟨g5, 0, none⟩)])) ?hg ?ho ?hn ?hr ?_; (case ho => rfl); (case hg => rfl); (case hn => rfl); (case hr => first | (go_simp; done) | (go_simp; rfl)); intro WP hw; have m1 : Aside0 (WP.heap[g7]? = some (.cells #[(.func (.func 37) #[] #[.pointer (some ⟨g4, 0, none⟩), .pointer (some ⟨g5, 0, none⟩)])] 59 (0, 0))) := ⟨by rw [hw]; exact blk_put BK7.out 0 _ rfl⟩; have m2 : Aside0 (WP.heap[gb112]? = some (.cells #[.int .i64 a0_0, .slice A0_1 l0_1.length c0_1, .slice A0_2 l0_2.length c0_2] 40 (0, 0))) := ⟨by rw [hw]; exact blk_far BK112.out (blk_ne BK112.out BK7.out (by decide)) _⟩; have m3 : Aside0 (WP.heap[g4]? = some (.cells #[.string a1] 9 (0, 0))) := ⟨by rw [hw]; exact blk_far BK4.out (blk_ne BK4.out BK7.out (by decide)) _⟩; have m4 : Aside0 (WP.heap[g5]? = some (.cells #[.int .i64 a2] 3 (0, 0))) := ⟨by rw [hw]; exact blk_far BK5.out (blk_ne BK5.out BK7.out (by decide)) _⟩; have m5 : Aside0 (Below w.heap.size w WP) := ⟨by rw [hw]; exact below_set HB.out GE7.out⟩; clear BK7 BK112 BK4 BK5 HB hz7 hf7 hw; have BK7 := m1; have BK112 := m2; have BK4 := m3; have BK5 := m4; have HB := m5; clear m1 m2 m3 m4 m5; have hcz_0 : WP.cell? ⟨gb112, 0, none⟩ = some (.int .i64 a0_0) := (blk_cell BK112.out 0).trans rfl; have hcz_1 : WP.cell? ⟨gb112, 1, none⟩ = some (.slice A0_1 l0_1.length c0_1) := (blk_cell BK112.out 1).trans rfl; have hcz_2 : WP.cell? ⟨gb112, 2, none⟩ = some (.slice A0_2 l0_2.length c0_2) := (blk_cell BK112.out 2).trans rfl; have hcz_4 : WP.cell? ⟨g4, 0, none⟩ = some (.string a1) := (blk_cell BK4.out 0).trans rfl; have hcz_5 : WP.cell? ⟨g5, 0, none⟩ = some (.int .i64 a2) := (blk_cell BK5.out 0).trans rfl; have hcz_7 : WP.cell? ⟨g7, 0, none⟩ = some (.func (.func 37) #[] #[.pointer (some ⟨g4, 0, none⟩), .pointer (some ⟨g5, 0, none⟩)]) := (blk_cell BK7.out 0).trans rfl)
   | ((with_reducible refine gate_callee (f := 40) rfl ?_); refine goesL_ (some 74) rfl rfl Try.func40 (by kernel_rfl) rfl #[.slice A0_2 l0_2.length c0_2, (.func (.func 37) #[] #[.pointer (some ⟨g4, 0, none⟩), .pointer (some ⟨g5, 0, none⟩)])] rfl (by (try simp only [List.map_toArray, List.map_cons, List.map_nil]); first | done | rfl | (simp only [List.length_drop, List.length_take]; rfl)) ?_; (refine (eval_match.anw _ 37 #[.pointer (some ⟨g4, 0, none⟩), .pointer (some ⟨g5, 0, none⟩)] enters37 k _ _ l0_2 t122 _ (eval_match.kid k IHH.out a1 a2 g4 g5 _ ((blk_cell BK4.out 0).trans rfl) ((blk_cell BK5.out 0).trans rfl)) ?side1 ?side2 ?side3 A37.out).mono ?_); (case side1 => first | exact GlobOk.below HG.out (by repeat first | exact lU HB.out | refine below_set ?_ GE112.out | apply below_alloc | apply pw_below_drewN | apply below_drew1) | (repeat (first | exact HG.out | (with_reducible refine GlobOk.alloc ?_ _) | (with_reducible refine GlobOk.drewN ?_ _) | (with_reducible refine GlobOk.drew ?_)))); (case side2 => repeat (first | exact (Kd.C_below HR0_2.out HB.out) | (with_reducible refine Kd.C_alloc ?_ _) | (with_reducible refine Kd.C_drewN ?_ _) | (with_reducible refine Kd.C_drew ?_))); (case side3 => exact HC0_2.out); rintro e w40 ⟨rfl, hb⟩; refine ⟨_, rfl, ?_⟩; replace BK112 := am (blk_below (bU BK112.out) hb); replace HB := am (below_step (by repeat first | exact lU HB.out | refine below_set ?_ GE112.out | apply below_alloc | apply pw_below_drewN | apply below_drew1) hb); (try clear hb); (try clear hb2); (try clear hk); (try clear hi)))
       go_ret
       exact ⟨by first | rfl | (simp [errW_none, errW_some] <;> rfl) | (simp [*, errW_none, errW_some] <;> rfl), by repeat (first | (with_reducible first | exact HB.out | apply below_alloc | apply pw_below_drewN | apply below_drew1 | refine below_set ?_ GE112.out) | exact HB.out)⟩
      ·rw [if_neg c36] at H
       have c36b0 : (a0_0 == 5) = false := beq_eq_false_iff_ne.mpr c36
       have c36b1 : (a0_0 != 5) = true := bne_iff_ne.mpr c36
       by_cases c41 : a0_0 = 6
       ·rw [if_pos c41] at H
        have c41b0 : (a0_0 == 6) = true := beq_iff_eq.mpr c41
        have c41b1 : (a0_0 != 6) = false := bne_eq_false_iff_eq.mpr c41
        clear c41
        by_cases c42 : (l0_2.length : Int) > 0
        ·rw [if_pos c42] at H
         have c42b0 : decide (0 < (l0_2.length : Int)) = true := decide_eq_true c42
         have c42b1 : decide (0 < l0_2.length) = true := decide_eq_true (by omega)
         clear c42
         by_cases c43 : 0 < (l0_2.length : Int)
         ·rw [if_pos c43] at H
          have c43b0 : decide (0 < (l0_2.length : Int)) = true := decide_eq_true c43
          have c43b1 : decide (0 < l0_2.length) = true := decide_eq_true (by omega)
          clear c43
          replace H := Option.bind_eq_some_iff.mp H
          obtain ⟨t124, A440, H⟩ := H
          replace H : (some (!t124)) = some r := H
          have A44 := am A440
          clear A440
          obtain rfl := Option.some.inj H
          go_enter Try.func33, Try.ntmps33
          try go_wp2_with (first
   | ((with_reducible refine gate_dst (N := 3) rfl ?_); refine box_event ?hg (N := 3) ?hd (cs := #[.int .i64 a0_0, .slice A0_1 l0_1.length c0_1, .slice A0_2 l0_2.length c0_2]) (t := 40) ?hr ?_; (case hd => rfl); (case hg => rfl); (case hr => first | (go_simp; done) | (go_simp; rfl)); intro gb112 hg W3 hbox hb; have nb_ := am (below_step HB.out hb); have n_BK112 := am (show w.heap.size ≤ gb112 by rw [hg]; exact below_size HB.out); have BK112 := am hbox; clear HB; have HB := nb_; have GE112 := n_BK112; clear nb_ n_BK112 hb hbox hg)
   | ((with_reducible refine gate_dst (N := 4) rfl ?_); refine box_event ?hg (N := 4) ?hd (cs := #[.string a1]) (t := 9) ?hr ?_; (case hd => rfl); (case hg => rfl); (case hr => first | (go_simp; done) | (go_simp; rfl)); intro g4 hg W4 hbox hb; have nb_ := am (below_step HB.out hb); have n_BK4 := am (show w.heap.size ≤ g4 by rw [hg]; exact below_size HB.out); have m_BK112 := am (blk_below BK112.out hb); clear BK112; have BK112 := m_BK112; clear m_BK112; have BK4 := am hbox; clear HB; have HB := nb_; have GE4 := n_BK4; clear nb_ n_BK4 hb hbox hg)
   | ((with_reducible refine gate_dst (N := 5) rfl ?_); refine box_event ?hg (N := 5) ?hd (cs := #[.int .i64 a2]) (t := 3) ?hr ?_; (case hd => rfl); (case hg => rfl); (case hr => first | (go_simp; done) | (go_simp; rfl)); intro g5 hg W5 hbox hb; have nb_ := am (below_step HB.out hb); have n_BK5 := am (show w.heap.size ≤ g5 by rw [hg]; exact below_size HB.out); have m_BK112 := am (blk_below BK112.out hb); clear BK112; have BK112 := m_BK112; clear m_BK112; have m_BK4 := am (blk_below BK4.out hb); clear BK4; have BK4 := m_BK4; clear m_BK4; have BK5 := am hbox; clear HB; have HB := nb_; have GE5 := n_BK5; clear nb_ n_BK5 hb hbox hg)
   | ((with_reducible refine gate_dst (N := 7) rfl ?_); refine box_event ?hg (N := 7) ?hd (cs := #[.nilFunc]) (t := 59) ?hr ?_; (case hd => rfl); (case hg => rfl); (case hr => first | (go_simp; done) | (go_simp; rfl)); intro g7 hg W7 hbox hb; have nb_ := am (below_step HB.out hb); have n_BK7 := am (show w.heap.size ≤ g7 by rw [hg]; exact below_size HB.out); have m_BK112 := am (blk_below BK112.out hb); clear BK112; have BK112 := m_BK112; clear m_BK112; have m_BK4 := am (blk_below BK4.out hb); clear BK4; have BK4 := m_BK4; clear m_BK4; have m_BK5 := am (blk_below BK5.out hb); clear BK5; have BK5 := m_BK5; clear m_BK5; have BK7 := am hbox; clear HB; have HB := nb_; have GE7 := n_BK7; clear nb_ n_BK7 hb hbox hg; have hz7 : W7.cell? ⟨g7, 0, none⟩ = some .nilFunc := (blk_cell BK7.out 0).trans rfl; have hf7 := blk_frozen BK7.out 0)
   | ((with_reducible refine gate_store (t := 59) (p := 7) rfl ?_); refine store_event (t := 59) (p := 7) (v := .tmp 10) (w1 := W7.setCell ⟨g7, 0, none⟩ (.func (.func 37) #[] #[.pointer (some ⟨g4, 0, none⟩), .pointer (some ⟨g5, 0, none⟩)])) ?hg ?ho ?hn ?hr ?_; (case ho => rfl); (case hg => rfl); (case hn => rfl); (case hr => first | (go_simp; done) | (go_simp; rfl)); intro WP hw; have m1 : Aside0 (WP.heap[g7]? = some (.cells #[(.func (.func 37) #[] #[.pointer (some ⟨g4, 0, none⟩), .pointer (some ⟨g5, 0, none⟩)])] 59 (0, 0))) := ⟨by rw [hw]; exact blk_put BK7.out 0 _ rfl⟩; have m2 : Aside0 (WP.heap[gb112]? = some (.cells #[.int .i64 a0_0, .slice A0_1 l0_1.length c0_1, .slice A0_2 l0_2.length c0_2] 40 (0, 0))) := ⟨by rw [hw]; exact blk_far BK112.out (blk_ne BK112.out BK7.out (by decide)) _⟩; have m3 : Aside0 (WP.heap[g4]? = some (.cells #[.string a1] 9 (0, 0))) := ⟨by rw [hw]; exact blk_far BK4.out (blk_ne BK4.out BK7.out (by decide)) _⟩; have m4 : Aside0 (WP.heap[g5]? = some (.cells #[.int .i64 a2] 3 (0, 0))) := ⟨by rw [hw]; exact blk_far BK5.out (blk_ne BK5.out BK7.out (by decide)) _⟩; have m5 : Aside0 (Below w.heap.size w WP) := ⟨by rw [hw]; exact below_set HB.out GE7.out⟩; clear BK7 BK112 BK4 BK5 HB hz7 hf7 hw; have BK7 := m1; have BK112 := m2; have BK4 := m3; have BK5 := m4; have HB := m5; clear m1 m2 m3 m4 m5; have hcz_0 : WP.cell? ⟨gb112, 0, none⟩ = some (.int .i64 a0_0) := (blk_cell BK112.out 0).trans rfl; have hcz_1 : WP.cell? ⟨gb112, 1, none⟩ = some (.slice A0_1 l0_1.length c0_1) := (blk_cell BK112.out 1).trans rfl; have hcz_2 : WP.cell? ⟨gb112, 2, none⟩ = some (.slice A0_2 l0_2.length c0_2) := (blk_cell BK112.out 2).trans rfl; have hcz_4 : WP.cell? ⟨g4, 0, none⟩ = some (.string a1) := (blk_cell BK4.out 0).trans rfl; have hcz_5 : WP.cell? ⟨g5, 0, none⟩ = some (.int .i64 a2) := (blk_cell BK5.out 0).trans rfl; have hcz_7 : WP.cell? ⟨g7, 0, none⟩ = some (.func (.func 37) #[] #[.pointer (some ⟨g4, 0, none⟩), .pointer (some ⟨g5, 0, none⟩)]) := (blk_cell BK7.out 0).trans rfl))
          replace BK112 := am (blk_drew BK112.out)
          replace HB := am (below_drew1 HB.out)
          have m_ := am (blk_drew BK4.out)
          clear BK4
          have BK4 := m_
          clear m_
          have m_ := am (blk_drew BK5.out)
          clear BK5
          have BK5 := m_
          clear m_
          have m_ := am (blk_drew BK7.out)
          clear BK7
          have BK7 := m_
          clear m_
          have p123 : 0 ≤ (0 : Int) := (by omega)
          have q123 : 0 < (l0_2.length : Int) := of_decide_eq_true (by first | (with_reducible assumption) | assumption)
          obtain ⟨ad123, A123_1, c123_1, A123_2, c123_2, e123, hx123_0, hx123_1, hx123_2, hl123_1, hi123_1, hl123_2, hi123_2⟩ := at_T40 HR0_2.out 0 p123 q123
          have hw123_2 := hx123_2
          (try rw [show ((0 : Int)).toNat = 0 from rfl] at hw123_2)
          (try rw [show 0 * 3 = 0 from rfl] at hw123_2)
          (try rw [Addr.add_zero'] at hw123_2)
          have hw123_1 := hx123_1
          (try rw [show ((0 : Int)).toNat = 0 from rfl] at hw123_1)
          (try rw [show 0 * 3 = 0 from rfl] at hw123_1)
          (try rw [Addr.add_zero'] at hw123_1)
          have hw123_0 := hx123_0
          (try rw [show ((0 : Int)).toNat = 0 from rfl] at hw123_0)
          (try rw [show 0 * 3 = 0 from rfl] at hw123_0)
          (try rw [Addr.add_zero'] at hw123_0)
          cases e123
          have qi123 : (0 < l0_2.length) = True := eq_true (by omega)
          (try rw [show ((0 : Int)).toNat = 0 from rfl] at hx123_0)
          (try rw [show 0 * 3 = 0 from rfl] at hx123_0)
          (try rw [Addr.add_zero'] at hx123_0)
          (try rw [show ((0 : Int)).toNat = 0 from rfl] at hx123_1)
          (try rw [show 0 * 3 = 0 from rfl] at hx123_1)
          (try rw [Addr.add_zero'] at hx123_1)
          (try rw [show ((0 : Int)).toNat = 0 from rfl] at hx123_2)
          (try rw [show 0 * 3 = 0 from rfl] at hx123_2)
          (try rw [Addr.add_zero'] at hx123_2)
          replace hx123_0 := (HB.out.cell (World.block_lt_of_cell? w _ hx123_0)).trans hx123_0
          replace hx123_1 := (HB.out.cell (World.block_lt_of_cell? w _ hx123_1)).trans hx123_1
          replace hx123_2 := (HB.out.cell (World.block_lt_of_cell? w _ hx123_2)).trans hx123_2
          have HR123_1 := am hi123_1
          have HC123_1 := am hl123_1
          clear hi123_1 hl123_1
          have HR123_2 := am hi123_2
          have HC123_2 := am hl123_2
          clear hi123_2 hl123_2
          replace p123 := eq_true p123
          replace q123 := eq_true q123
          refine start_ (n := 14) (S := fun w' => w'.cell? ⟨gb112, 0, none⟩ = some (.int .i64 a0_0) ∧ w'.cell? ⟨gb112, 1, none⟩ = some (.slice A0_1 l0_1.length c0_1) ∧ w'.cell? ⟨gb112, 2, none⟩ = some (.slice (some ad123) l0_2.length c0_2) ∧ w'.cell? ad123 = some (.int .i64 ((rd_T40 l0_2 0).f0)) ∧ w'.cell? ⟨ad123.block, ad123.off + 1, none⟩ = some (.slice A123_1 ((rd_T40 l0_2 0).f1).length c123_1) ∧ w'.cell? ⟨ad123.block, ad123.off + 2, none⟩ = some (.slice A123_2 ((rd_T40 l0_2 0).f2).length c123_2) ∧ w'.cell? ⟨g7, 0, none⟩ = some (.func (.func 37) #[] #[.pointer (some ⟨g4, 0, none⟩), .pointer (some ⟨g5, 0, none⟩)])) (ds := []) #[false, false, false, false, false, false, false, false, false, false, false, false, false, false] (by kernel_rfl) rfl rfl ⟨(blk_cell BK112.out 0).trans rfl, (blk_cell BK112.out 1).trans rfl, (blk_cell BK112.out 2).trans rfl, ((HB.out.cell (World.block_lt_of_cell? w _ hw123_0)).trans hw123_0), ((HB.out.cell (World.block_lt_of_cell? w _ hw123_1)).trans hw123_1), ((HB.out.cell (World.block_lt_of_cell? w _ hw123_2)).trans hw123_2), (blk_cell BK7.out 0).trans rfl⟩ (fun hHeld => ?_); refine with_tabW eval_match.tab16 eval_match.bits16 (fun HT_ HW_ => ?_)
          clear hcz_0 hcz_1 hcz_2 hcz_4 hcz_5 hcz_7
          generalize WP.drew = w47 at BK112 BK4 BK5 BK7 HB HR123_1 HR123_2 hx123_0 hx123_1 hx123_2 hHeld ⊢
          refine pure_ (i := 0) (N := some 79) (v := ?_) (a' := ?_) #[true, false, false, false, false, false, false, false, false, false, false, false, false, false] rfl rfl (any_of HT_.out (by kernel_rfl)) (fun _ _ _ h => h) (Or.inl ⟨by rfl, ?_⟩) ?_ ?_
          rotate_left
          ·intro w'
           go_simp
           with_reducible rfl
          rotate_left
          ·simp only [Act.put, List.setIfInBounds_toArray, List.set_cons_zero, List.set_cons_succ, i64_w, i32_w]
           rfl
          refine take_ (i := 1) (N := some 80) (v := ?_) (a' := ?_) #[true, true, false, false, false, false, false, false, false, false, false, false, false, false] rfl rfl (take_ofW HT_.out HW_.out (by kernel_rfl)) (fun _ _ _ h => h) (Or.inl ⟨by rfl, ?_⟩) hHeld ?_ ?_
          rotate_left
          ·rintro w' ⟨s0, s1, s2, s3, s4, s5, s6⟩
           go_simp
           with_reducible rfl
          rotate_left
          ·simp only [Act.put, List.setIfInBounds_toArray, List.set_cons_zero, List.set_cons_succ, i64_w, i32_w]
           rfl
          refine pure_ (i := 2) (N := some 81) (v := ?_) (a' := ?_) #[true, true, true, false, false, false, false, false, false, false, false, false, false, false] rfl rfl (any_of HT_.out (by kernel_rfl)) (fun _ _ _ h => h) (Or.inl ⟨by rfl, ?_⟩) ?_ ?_
          rotate_left
          ·intro w'
           go_simp
           with_reducible rfl
          rotate_left
          ·simp only [Act.put, List.setIfInBounds_toArray, List.set_cons_zero, List.set_cons_succ, i64_w, i32_w]
           rfl
          refine pure_ (i := 3) (N := some 82) (v := ?_) (a' := ?_) #[true, true, true, true, false, false, false, false, false, false, false, false, false, false] rfl rfl (any_of HT_.out (by kernel_rfl)) (fun _ _ _ h => h) (Or.inl ⟨by rfl, ?_⟩) ?_ ?_
          rotate_left
          ·intro w'
           go_simp
           with_reducible rfl
          rotate_left
          ·simp only [Act.put, List.setIfInBounds_toArray, List.set_cons_zero, List.set_cons_succ, i64_w, i32_w]
           rfl
          refine pure_ (i := 4) (N := some 83) (v := ?_) (a' := ?_) #[true, true, true, true, true, false, false, false, false, false, false, false, false, false] rfl rfl (any_of HT_.out (by kernel_rfl)) (fun _ _ _ h => h) (Or.inl ⟨by rfl, ?_⟩) ?_ ?_
          rotate_left
          ·intro w'
           go_simp
           with_reducible rfl
          rotate_left
          ·simp only [Act.put, List.setIfInBounds_toArray, List.set_cons_zero, List.set_cons_succ, i64_w, i32_w]
           rfl
          refine take_ (i := 5) (N := some 84) (v := ?_) (a' := ?_) #[true, true, true, true, true, true, false, false, false, false, false, false, false, false] rfl rfl (take_ofW HT_.out HW_.out (by kernel_rfl)) (fun _ _ _ h => h) (Or.inl ⟨by rfl, ?_⟩) hHeld ?_ ?_
          rotate_left
          ·rintro w' ⟨s0, s1, s2, s3, s4, s5, s6⟩
           go_simp
           with_reducible rfl
          rotate_left
          ·simp only [Act.put, List.setIfInBounds_toArray, List.set_cons_zero, List.set_cons_succ, i64_w, i32_w]
           rfl
          refine pure_ (i := 6) (N := some 85) (v := ?_) (a' := ?_) #[true, true, true, true, true, true, true, false, false, false, false, false, false, false] rfl rfl (any_of HT_.out (by kernel_rfl)) (fun _ _ _ h => h) (Or.inl ⟨by rfl, ?_⟩) ?_ ?_
          rotate_left
          ·intro w'
           go_simp
           with_reducible rfl
          rotate_left
          ·simp only [Act.put, List.setIfInBounds_toArray, List.set_cons_zero, List.set_cons_succ, i64_w, i32_w]
           rfl
          refine take_ (i := 7) (N := some 86) (v := ?_) (a' := ?_) #[true, true, true, true, true, true, true, true, false, false, false, false, false, false] rfl rfl (take_ofW HT_.out HW_.out (by kernel_rfl)) (fun _ _ _ h => h) (Or.inl ⟨by rfl, ?_⟩) hHeld ?_ ?_
          rotate_left
          ·rintro w' ⟨s0, s1, s2, s3, s4, s5, s6⟩
           go_simp
           with_reducible rfl
          rotate_left
          ·simp only [Act.put, List.setIfInBounds_toArray, List.set_cons_zero, List.set_cons_succ, i64_w, i32_w]
           rfl
          refine pure_ (i := 8) (N := some 87) (v := ?_) (a' := ?_) #[true, true, true, true, true, true, true, true, true, false, false, false, false, false] rfl rfl (any_of HT_.out (by kernel_rfl)) (fun _ _ _ h => h) (Or.inl ⟨by rfl, ?_⟩) ?_ ?_
          rotate_left
          ·intro w'
           go_simp
           with_reducible rfl
          rotate_left
          ·simp only [Act.put, List.setIfInBounds_toArray, List.set_cons_zero, List.set_cons_succ, i64_w, i32_w]
           rfl
          refine take_ (i := 9) (N := some 88) (v := ?_) (a' := ?_) #[true, true, true, true, true, true, true, true, true, true, false, false, false, false] rfl rfl (take_ofW HT_.out HW_.out (by kernel_rfl)) (fun _ _ _ h => h) (Or.inl ⟨by rfl, ?_⟩) hHeld ?_ ?_
          rotate_left
          ·rintro w' ⟨s0, s1, s2, s3, s4, s5, s6⟩
           go_simp
           with_reducible rfl
          rotate_left
          ·simp only [Act.put, List.setIfInBounds_toArray, List.set_cons_zero, List.set_cons_succ, i64_w, i32_w]
           rfl
          refine one_ (i := 10) (N := some 89) #[true, true, true, true, true, true, true, true, true, true, true, false, false, false] rfl rfl (one_of HT_.out (by kernel_rfl)) (by decide) (fun K hK => ?_)
          refine goesO_ (f := 37) (cap := #[.pointer (some ⟨g4, 0, none⟩), .pointer (some ⟨g5, 0, none⟩)]) #[.agg #[.int .i64 ((rd_T40 l0_2 0).f0), .slice A123_1 ((rd_T40 l0_2 0).f1).length c123_1, .slice A123_2 ((rd_T40 l0_2 0).f2).length c123_2]] enters37 (by rfl) rfl rfl rfl (by (try simp only [List.map_toArray, List.map_cons, List.map_nil]); first | done | rfl) ?_
          refine (eval_match.kid k IHH.out a1 a2 g4 g5 _ ((blk_cell BK4.out 0).trans rfl) ((blk_cell BK5.out 0).trans rfl) (rd_T40 l0_2 0) _ _ _ _ t124 _ ?side1 ?side2 ?side3 ?side4 ?side5 (Below.refl _ _) A44.out).mono ?_
          (case side1 => first | exact GlobOk.below HG.out (by repeat first | exact lU HB.out | refine below_set ?_ GE112.out | apply below_alloc | apply pw_below_drewN | apply below_drew1) | (repeat (first | exact HG.out | (with_reducible refine GlobOk.alloc ?_ _) | (with_reducible refine GlobOk.drewN ?_ _) | (with_reducible refine GlobOk.drew ?_))))
          (case side2 => repeat (first | exact (Kd.C_below HR123_1.out HB.out) | (with_reducible refine Kd.C_alloc ?_ _) | (with_reducible refine Kd.C_drewN ?_ _) | (with_reducible refine Kd.C_drew ?_)))
          (case side3 => exact HC123_1.out)
          (case side4 => repeat (first | exact (Kd.C_below HR123_2.out HB.out) | (with_reducible refine Kd.C_alloc ?_ _) | (with_reducible refine Kd.C_drewN ?_ _) | (with_reducible refine Kd.C_drew ?_)))
          (case side5 => exact HC123_2.out)
          rintro e w48 ⟨rfl, hb⟩
          refine ⟨_, rfl, ?_⟩
          replace BK112 := am (blk_below (bU BK112.out) hb)
          replace HB := am (below_step (by repeat first | exact lU HB.out | refine below_set ?_ GE112.out | apply below_alloc | apply pw_below_drewN | apply below_drew1) hb)
          have m_ := am (blk_below BK4.out hb)
          clear BK4
          have BK4 := m_
          clear m_
          have m_ := am (blk_below BK5.out hb)
          clear BK5
          have BK5 := m_
          clear m_
          have m_ := am (blk_below BK7.out hb)
          clear BK7
          have BK7 := m_
          clear m_
          (try clear hb)
          (try clear hb2)
          (try clear hk)
          (try clear hi)
          refine hK.out _ _ ⟨(blk_cell BK112.out 0).trans rfl, (blk_cell BK112.out 1).trans rfl, (blk_cell BK112.out 2).trans rfl, ((HB.out.cell (World.block_lt_of_cell? w _ hw123_0)).trans hw123_0), ((HB.out.cell (World.block_lt_of_cell? w _ hw123_1)).trans hw123_1), ((HB.out.cell (World.block_lt_of_cell? w _ hw123_2)).trans hw123_2), (blk_cell BK7.out 0).trans rfl⟩ (fun hHeld => ?_)
          clear hK K
          refine norm_ (a' := ?_) ?_ ?_
          rotate_left
          ·show Act.put _ (some 89) _ = _
           simp only [Act.put, List.setIfInBounds_toArray, List.set_cons_zero, List.set_cons_succ, i64_w, i32_w]
           rfl
          refine pure_ (i := 11) (N := some 90) (v := ?_) (a' := ?_) #[true, true, true, true, true, true, true, true, true, true, true, true, false, false] rfl rfl (any_of HT_.out (by kernel_rfl)) (fun _ _ _ h => h) (Or.inl ⟨by rfl, ?_⟩) ?_ ?_
          rotate_left
          ·intro w'
           go_simp
           with_reducible rfl
          rotate_left
          ·simp only [Act.put, List.setIfInBounds_toArray, List.set_cons_zero, List.set_cons_succ, i64_w, i32_w]
           rfl
          refine pure_ (i := 12) (N := some 91) (v := ?_) (a' := ?_) #[true, true, true, true, true, true, true, true, true, true, true, true, true, false] rfl rfl (any_of HT_.out (by kernel_rfl)) (fun _ _ _ h => h) (Or.inl ⟨by rfl, ?_⟩) ?_ ?_
          rotate_left
          ·intro w'
           go_simp
           with_reducible rfl
          rotate_left
          ·simp only [Act.put, List.setIfInBounds_toArray, List.set_cons_zero, List.set_cons_succ, i64_w, i32_w]
           rfl
          refine pure_ (i := 13) (N := some 6) (v := ?_) (a' := ?_) #[true, true, true, true, true, true, true, true, true, true, true, true, true, true] rfl rfl (any_of HT_.out (by kernel_rfl)) (fun _ _ _ h => h) (Or.inl ⟨by rfl, ?_⟩) ?_ ?_
          rotate_left
          ·intro w'
           go_simp
           with_reducible rfl
          rotate_left
          ·simp only [Act.put, List.setIfInBounds_toArray, List.set_cons_zero, List.set_cons_succ, i64_w, i32_w]
           rfl
          refine done_ (done_of HT_.out (by kernel_rfl)) ?_
          try go_wp2
          go_ret
          exact ⟨by first | rfl | (simp [errW_none, errW_some] <;> rfl) | (simp [*, errW_none, errW_some] <;> rfl), by repeat (first | (with_reducible first | exact HB.out | apply below_alloc | apply pw_below_drewN | apply below_drew1 | refine below_set ?_ GE112.out) | exact HB.out)⟩
         ·rw [if_neg c43] at H
          exact absurd H (by simp)
        ·rw [if_neg c42] at H
         have c42b0 : decide (0 < (l0_2.length : Int)) = false := decide_eq_false c42
         have c42b1 : decide (0 < l0_2.length) = false := decide_eq_false (by omega)
         clear c42
         obtain rfl := Option.some.inj H
         go_enter Try.func33, Try.ntmps33
         try go_wp2_with (first
   | ((with_reducible refine gate_dst (N := 3) rfl ?_); refine box_event ?hg (N := 3) ?hd (cs := #[.int .i64 a0_0, .slice A0_1 l0_1.length c0_1, .slice A0_2 l0_2.length c0_2]) (t := 40) ?hr ?_; (case hd => rfl); (case hg => rfl); (case hr => first | (go_simp; done) | (go_simp; rfl)); intro gb112 hg W3 hbox hb; have nb_ := am (below_step HB.out hb); have n_BK112 := am (show w.heap.size ≤ gb112 by rw [hg]; exact below_size HB.out); have BK112 := am hbox; clear HB; have HB := nb_; have GE112 := n_BK112; clear nb_ n_BK112 hb hbox hg)
   | ((with_reducible refine gate_dst (N := 4) rfl ?_); refine box_event ?hg (N := 4) ?hd (cs := #[.string a1]) (t := 9) ?hr ?_; (case hd => rfl); (case hg => rfl); (case hr => first | (go_simp; done) | (go_simp; rfl)); intro g4 hg W4 hbox hb; have nb_ := am (below_step HB.out hb); have n_BK4 := am (show w.heap.size ≤ g4 by rw [hg]; exact below_size HB.out); have m_BK112 := am (blk_below BK112.out hb); clear BK112; have BK112 := m_BK112; clear m_BK112; have BK4 := am hbox; clear HB; have HB := nb_; have GE4 := n_BK4; clear nb_ n_BK4 hb hbox hg)
   | ((with_reducible refine gate_dst (N := 5) rfl ?_); refine box_event ?hg (N := 5) ?hd (cs := #[.int .i64 a2]) (t := 3) ?hr ?_; (case hd => rfl); (case hg => rfl); (case hr => first | (go_simp; done) | (go_simp; rfl)); intro g5 hg W5 hbox hb; have nb_ := am (below_step HB.out hb); have n_BK5 := am (show w.heap.size ≤ g5 by rw [hg]; exact below_size HB.out); have m_BK112 := am (blk_below BK112.out hb); clear BK112; have BK112 := m_BK112; clear m_BK112; have m_BK4 := am (blk_below BK4.out hb); clear BK4; have BK4 := m_BK4; clear m_BK4; have BK5 := am hbox; clear HB; have HB := nb_; have GE5 := n_BK5; clear nb_ n_BK5 hb hbox hg)
   | ((with_reducible refine gate_dst (N := 7) rfl ?_); refine box_event ?hg (N := 7) ?hd (cs := #[.nilFunc]) (t := 59) ?hr ?_; (case hd => rfl); (case hg => rfl); (case hr => first | (go_simp; done) | (go_simp; rfl)); intro g7 hg W7 hbox hb; have nb_ := am (below_step HB.out hb); have n_BK7 := am (show w.heap.size ≤ g7 by rw [hg]; exact below_size HB.out); have m_BK112 := am (blk_below BK112.out hb); clear BK112; have BK112 := m_BK112; clear m_BK112; have m_BK4 := am (blk_below BK4.out hb); clear BK4; have BK4 := m_BK4; clear m_BK4; have m_BK5 := am (blk_below BK5.out hb); clear BK5; have BK5 := m_BK5; clear m_BK5; have BK7 := am hbox; clear HB; have HB := nb_; have GE7 := n_BK7; clear nb_ n_BK7 hb hbox hg; have hz7 : W7.cell? ⟨g7, 0, none⟩ = some .nilFunc := (blk_cell BK7.out 0).trans rfl; have hf7 := blk_frozen BK7.out 0)
   | ((with_reducible refine gate_store (t := 59) (p := 7) rfl ?_); refine store_event (t := 59) (p := 7) (v := .tmp 10) (w1 := W7.setCell ⟨g7, 0, none⟩ (.func (.func 37) #[] #[.pointer (some ⟨g4, 0, none⟩), .pointer (some ⟨g5, 0, none⟩)])) ?hg ?ho ?hn ?hr ?_; (case ho => rfl); (case hg => rfl); (case hn => rfl); (case hr => first | (go_simp; done) | (go_simp; rfl)); intro WP hw; have m1 : Aside0 (WP.heap[g7]? = some (.cells #[(.func (.func 37) #[] #[.pointer (some ⟨g4, 0, none⟩), .pointer (some ⟨g5, 0, none⟩)])] 59 (0, 0))) := ⟨by rw [hw]; exact blk_put BK7.out 0 _ rfl⟩; have m2 : Aside0 (WP.heap[gb112]? = some (.cells #[.int .i64 a0_0, .slice A0_1 l0_1.length c0_1, .slice A0_2 l0_2.length c0_2] 40 (0, 0))) := ⟨by rw [hw]; exact blk_far BK112.out (blk_ne BK112.out BK7.out (by decide)) _⟩; have m3 : Aside0 (WP.heap[g4]? = some (.cells #[.string a1] 9 (0, 0))) := ⟨by rw [hw]; exact blk_far BK4.out (blk_ne BK4.out BK7.out (by decide)) _⟩; have m4 : Aside0 (WP.heap[g5]? = some (.cells #[.int .i64 a2] 3 (0, 0))) := ⟨by rw [hw]; exact blk_far BK5.out (blk_ne BK5.out BK7.out (by decide)) _⟩; have m5 : Aside0 (Below w.heap.size w WP) := ⟨by rw [hw]; exact below_set HB.out GE7.out⟩; clear BK7 BK112 BK4 BK5 HB hz7 hf7 hw; have BK7 := m1; have BK112 := m2; have BK4 := m3; have BK5 := m4; have HB := m5; clear m1 m2 m3 m4 m5; have hcz_0 : WP.cell? ⟨gb112, 0, none⟩ = some (.int .i64 a0_0) := (blk_cell BK112.out 0).trans rfl; have hcz_1 : WP.cell? ⟨gb112, 1, none⟩ = some (.slice A0_1 l0_1.length c0_1) := (blk_cell BK112.out 1).trans rfl; have hcz_2 : WP.cell? ⟨gb112, 2, none⟩ = some (.slice A0_2 l0_2.length c0_2) := (blk_cell BK112.out 2).trans rfl; have hcz_4 : WP.cell? ⟨g4, 0, none⟩ = some (.string a1) := (blk_cell BK4.out 0).trans rfl; have hcz_5 : WP.cell? ⟨g5, 0, none⟩ = some (.int .i64 a2) := (blk_cell BK5.out 0).trans rfl; have hcz_7 : WP.cell? ⟨g7, 0, none⟩ = some (.func (.func 37) #[] #[.pointer (some ⟨g4, 0, none⟩), .pointer (some ⟨g5, 0, none⟩)]) := (blk_cell BK7.out 0).trans rfl))
         replace BK112 := am (blk_drew BK112.out)
         replace HB := am (below_drew1 HB.out)
         have m_ := am (blk_drew BK4.out)
         clear BK4
         have BK4 := m_
         clear m_
         have m_ := am (blk_drew BK5.out)
         clear BK5
         have BK5 := m_
         clear m_
         have m_ := am (blk_drew BK7.out)
         clear BK7
         have BK7 := m_
         clear m_
         refine start_ (n := 14) (S := fun w' => w'.cell? ⟨gb112, 0, none⟩ = some (.int .i64 a0_0) ∧ w'.cell? ⟨gb112, 1, none⟩ = some (.slice A0_1 l0_1.length c0_1) ∧ w'.cell? ⟨gb112, 2, none⟩ = some (.slice A0_2 l0_2.length c0_2) ∧ w'.cell? ⟨g7, 0, none⟩ = some (.func (.func 37) #[] #[.pointer (some ⟨g4, 0, none⟩), .pointer (some ⟨g5, 0, none⟩)])) (ds := []) #[false, false, false, false, false, false, false, false, false, false, false, false, false, false] (by kernel_rfl) rfl rfl ⟨(blk_cell BK112.out 0).trans rfl, (blk_cell BK112.out 1).trans rfl, (blk_cell BK112.out 2).trans rfl, (blk_cell BK7.out 0).trans rfl⟩ (fun hHeld => ?_); refine with_tabW eval_match.tab16 eval_match.bits16 (fun HT_ HW_ => ?_)
         clear hcz_0 hcz_1 hcz_2 hcz_4 hcz_5 hcz_7
         generalize WP.drew = w51 at BK112 BK4 BK5 BK7 HB hHeld ⊢
         refine pure_ (i := 0) (N := some 79) (v := ?_) (a' := ?_) #[true, false, false, false, false, false, false, false, false, false, false, false, false, false] rfl rfl (any_of HT_.out (by kernel_rfl)) (fun _ _ _ h => h) (Or.inl ⟨by rfl, ?_⟩) ?_ ?_
         rotate_left
         ·intro w'
          go_simp
          with_reducible rfl
         rotate_left
         ·simp only [Act.put, List.setIfInBounds_toArray, List.set_cons_zero, List.set_cons_succ, i64_w, i32_w]
          rfl
         refine take_ (i := 1) (N := some 80) (v := ?_) (a' := ?_) #[true, true, false, false, false, false, false, false, false, false, false, false, false, false] rfl rfl (take_ofW HT_.out HW_.out (by kernel_rfl)) (fun _ _ _ h => h) (Or.inl ⟨by rfl, ?_⟩) hHeld ?_ ?_
         rotate_left
         ·rintro w' ⟨s0, s1, s2, s3⟩
          go_simp
          with_reducible rfl
         rotate_left
         ·simp only [Act.put, List.setIfInBounds_toArray, List.set_cons_zero, List.set_cons_succ, i64_w, i32_w]
          rfl
         refine pure_ (i := 2) (N := some 81) (v := ?_) (a' := ?_) #[true, true, true, false, false, false, false, false, false, false, false, false, false, false] rfl rfl (any_of HT_.out (by kernel_rfl)) (fun _ _ _ h => h) (Or.inl ⟨by rfl, ?_⟩) ?_ ?_
         rotate_left
         ·intro w'
          go_simp
          with_reducible rfl
         rotate_left
         ·simp only [Act.put, List.setIfInBounds_toArray, List.set_cons_zero, List.set_cons_succ, i64_w, i32_w]
          rfl
         refine pure_ (i := 3) (N := some 82) (v := ?_) (a' := ?_) #[true, true, true, true, false, false, false, false, false, false, false, false, false, false] rfl rfl (any_of HT_.out (by kernel_rfl)) (fun _ _ _ h => h) (Or.inl ⟨by rfl, ?_⟩) ?_ ?_
         rotate_left
         ·intro w'
          go_simp
          with_reducible rfl
         rotate_left
         ·simp only [Act.put, List.setIfInBounds_toArray, List.set_cons_zero, List.set_cons_succ, i64_w, i32_w]
          rfl
         refine pure_ (i := 4) (N := some 83) (v := ?_) (a' := ?_) #[true, true, true, true, true, false, false, false, false, false, false, false, false, false] rfl rfl (any_of HT_.out (by kernel_rfl)) (fun _ _ _ h => h) (Or.inl ⟨by rfl, ?_⟩) ?_ ?_
         rotate_left
         ·intro w'
          go_simp
          with_reducible rfl
         rotate_left
         ·simp only [Act.put, List.setIfInBounds_toArray, List.set_cons_zero, List.set_cons_succ, i64_w, i32_w]
          rfl
         refine pure_ (i := 5) (N := some 84) (v := undef) (a' := ?_) #[true, true, true, true, true, true, false, false, false, false, false, false, false, false] rfl rfl (any_of HT_.out (by kernel_rfl)) (fun _ _ _ h => h) (Or.inr ⟨by rfl, rfl⟩) ?_ ?_
         rotate_left
         ·simp only [Act.put, List.setIfInBounds_toArray, List.set_cons_zero, List.set_cons_succ, i64_w, i32_w]
          rfl
         refine pure_ (i := 6) (N := some 85) (v := undef) (a' := ?_) #[true, true, true, true, true, true, true, false, false, false, false, false, false, false] rfl rfl (any_of HT_.out (by kernel_rfl)) (fun _ _ _ h => h) (Or.inr ⟨by rfl, rfl⟩) ?_ ?_
         rotate_left
         ·simp only [Act.put, List.setIfInBounds_toArray, List.set_cons_zero, List.set_cons_succ, i64_w, i32_w]
          rfl
         refine pure_ (i := 7) (N := some 86) (v := undef) (a' := ?_) #[true, true, true, true, true, true, true, true, false, false, false, false, false, false] rfl rfl (any_of HT_.out (by kernel_rfl)) (fun _ _ _ h => h) (Or.inr ⟨by rfl, rfl⟩) ?_ ?_
         rotate_left
         ·simp only [Act.put, List.setIfInBounds_toArray, List.set_cons_zero, List.set_cons_succ, i64_w, i32_w]
          rfl
         refine pure_ (i := 8) (N := some 87) (v := undef) (a' := ?_) #[true, true, true, true, true, true, true, true, true, false, false, false, false, false] rfl rfl (any_of HT_.out (by kernel_rfl)) (fun _ _ _ h => h) (Or.inr ⟨by rfl, rfl⟩) ?_ ?_
         rotate_left
         ·simp only [Act.put, List.setIfInBounds_toArray, List.set_cons_zero, List.set_cons_succ, i64_w, i32_w]
          rfl
         refine pure_ (i := 9) (N := some 88) (v := undef) (a' := ?_) #[true, true, true, true, true, true, true, true, true, true, false, false, false, false] rfl rfl (any_of HT_.out (by kernel_rfl)) (fun _ _ _ h => h) (Or.inr ⟨by rfl, rfl⟩) ?_ ?_
         rotate_left
         ·simp only [Act.put, List.setIfInBounds_toArray, List.set_cons_zero, List.set_cons_succ, i64_w, i32_w]
          rfl
         refine pure_ (i := 10) (N := some 89) (v := undef) (a' := ?_) #[true, true, true, true, true, true, true, true, true, true, true, false, false, false] rfl rfl (any_of HT_.out (by kernel_rfl)) (fun _ _ _ h => h) (Or.inr ⟨by rfl, rfl⟩) ?_ ?_
         rotate_left
         ·simp only [Act.put, List.setIfInBounds_toArray, List.set_cons_zero, List.set_cons_succ, i64_w, i32_w]
          rfl
         refine pure_ (i := 11) (N := some 90) (v := undef) (a' := ?_) #[true, true, true, true, true, true, true, true, true, true, true, true, false, false] rfl rfl (any_of HT_.out (by kernel_rfl)) (fun _ _ _ h => h) (Or.inr ⟨by rfl, rfl⟩) ?_ ?_
         rotate_left
         ·simp only [Act.put, List.setIfInBounds_toArray, List.set_cons_zero, List.set_cons_succ, i64_w, i32_w]
          rfl
         refine pure_ (i := 12) (N := some 91) (v := ?_) (a' := ?_) #[true, true, true, true, true, true, true, true, true, true, true, true, true, false] rfl rfl (any_of HT_.out (by kernel_rfl)) (fun _ _ _ h => h) (Or.inl ⟨by rfl, ?_⟩) ?_ ?_
         rotate_left
         ·intro w'
          go_simp
          with_reducible rfl
         rotate_left
         ·simp only [Act.put, List.setIfInBounds_toArray, List.set_cons_zero, List.set_cons_succ, i64_w, i32_w]
          rfl
         refine pure_ (i := 13) (N := some 6) (v := ?_) (a' := ?_) #[true, true, true, true, true, true, true, true, true, true, true, true, true, true] rfl rfl (any_of HT_.out (by kernel_rfl)) (fun _ _ _ h => h) (Or.inl ⟨by rfl, ?_⟩) ?_ ?_
         rotate_left
         ·intro w'
          go_simp
          with_reducible rfl
         rotate_left
         ·simp only [Act.put, List.setIfInBounds_toArray, List.set_cons_zero, List.set_cons_succ, i64_w, i32_w]
          rfl
         refine done_ (done_of HT_.out (by kernel_rfl)) ?_
         try go_wp2
         go_ret
         exact ⟨by first | rfl | (simp [errW_none, errW_some] <;> rfl) | (simp [*, errW_none, errW_some] <;> rfl), by repeat (first | (with_reducible first | exact HB.out | apply below_alloc | apply pw_below_drewN | apply below_drew1 | refine below_set ?_ GE112.out) | exact HB.out)⟩
       ·rw [if_neg c41] at H
        have c41b0 : (a0_0 == 6) = false := beq_eq_false_iff_ne.mpr c41
        have c41b1 : (a0_0 != 6) = true := bne_iff_ne.mpr c41
        obtain rfl := Option.some.inj H
        go_enter Try.func33, Try.ntmps33
        go_wp2_with (first
   | ((with_reducible refine gate_dst (N := 3) rfl ?_); refine box_event ?hg (N := 3) ?hd (cs := #[.int .i64 a0_0, .slice A0_1 l0_1.length c0_1, .slice A0_2 l0_2.length c0_2]) (t := 40) ?hr ?_; (case hd => rfl); (case hg => rfl); (case hr => first | (go_simp; done) | (go_simp; rfl)); intro gb112 hg W3 hbox hb; have nb_ := am (below_step HB.out hb); have n_BK112 := am (show w.heap.size ≤ gb112 by rw [hg]; exact below_size HB.out); have BK112 := am hbox; clear HB; have HB := nb_; have GE112 := n_BK112; clear nb_ n_BK112 hb hbox hg)
   | ((with_reducible refine gate_dst (N := 4) rfl ?_); refine box_event ?hg (N := 4) ?hd (cs := #[.string a1]) (t := 9) ?hr ?_; (case hd => rfl); (case hg => rfl); (case hr => first | (go_simp; done) | (go_simp; rfl)); intro g4 hg W4 hbox hb; have nb_ := am (below_step HB.out hb); have n_BK4 := am (show w.heap.size ≤ g4 by rw [hg]; exact below_size HB.out); have m_BK112 := am (blk_below BK112.out hb); clear BK112; have BK112 := m_BK112; clear m_BK112; have BK4 := am hbox; clear HB; have HB := nb_; have GE4 := n_BK4; clear nb_ n_BK4 hb hbox hg)
   | ((with_reducible refine gate_dst (N := 5) rfl ?_); refine box_event ?hg (N := 5) ?hd (cs := #[.int .i64 a2]) (t := 3) ?hr ?_; (case hd => rfl); (case hg => rfl); (case hr => first | (go_simp; done) | (go_simp; rfl)); intro g5 hg W5 hbox hb; have nb_ := am (below_step HB.out hb); have n_BK5 := am (show w.heap.size ≤ g5 by rw [hg]; exact below_size HB.out); have m_BK112 := am (blk_below BK112.out hb); clear BK112; have BK112 := m_BK112; clear m_BK112; have m_BK4 := am (blk_below BK4.out hb); clear BK4; have BK4 := m_BK4; clear m_BK4; have BK5 := am hbox; clear HB; have HB := nb_; have GE5 := n_BK5; clear nb_ n_BK5 hb hbox hg)
   | ((with_reducible refine gate_dst (N := 7) rfl ?_); refine box_event ?hg (N := 7) ?hd (cs := #[.nilFunc]) (t := 59) ?hr ?_; (case hd => rfl); (case hg => rfl); (case hr => first | (go_simp; done) | (go_simp; rfl)); intro g7 hg W7 hbox hb; have nb_ := am (below_step HB.out hb); have n_BK7 := am (show w.heap.size ≤ g7 by rw [hg]; exact below_size HB.out); have m_BK112 := am (blk_below BK112.out hb); clear BK112; have BK112 := m_BK112; clear m_BK112; have m_BK4 := am (blk_below BK4.out hb); clear BK4; have BK4 := m_BK4; clear m_BK4; have m_BK5 := am (blk_below BK5.out hb); clear BK5; have BK5 := m_BK5; clear m_BK5; have BK7 := am hbox; clear HB; have HB := nb_; have GE7 := n_BK7; clear nb_ n_BK7 hb hbox hg; have hz7 : W7.cell? ⟨g7, 0, none⟩ = some .nilFunc := (blk_cell BK7.out 0).trans rfl; have hf7 := blk_frozen BK7.out 0)
   | ((with_reducible refine gate_store (t := 59) (p := 7) rfl ?_); refine store_event (t := 59) (p := 7) (v := .tmp 10) (w1 := W7.setCell ⟨g7, 0, none⟩ (.func (.func 37) #[] #[.pointer (some ⟨g4, 0, none⟩), .pointer (some ⟨g5, 0, none⟩)])) ?hg ?ho ?hn ?hr ?_; (case ho => rfl); (case hg => rfl); (case hn => rfl); (case hr => first | (go_simp; done) | (go_simp; rfl)); intro WP hw; have m1 : Aside0 (WP.heap[g7]? = some (.cells #[(.func (.func 37) #[] #[.pointer (some ⟨g4, 0, none⟩), .pointer (some ⟨g5, 0, none⟩)])] 59 (0, 0))) := ⟨by rw [hw]; exact blk_put BK7.out 0 _ rfl⟩; have m2 : Aside0 (WP.heap[gb112]? = some (.cells #[.int .i64 a0_0, .slice A0_1 l0_1.length c0_1, .slice A0_2 l0_2.length c0_2] 40 (0, 0))) := ⟨by rw [hw]; exact blk_far BK112.out (blk_ne BK112.out BK7.out (by decide)) _⟩; have m3 : Aside0 (WP.heap[g4]? = some (.cells #[.string a1] 9 (0, 0))) := ⟨by rw [hw]; exact blk_far BK4.out (blk_ne BK4.out BK7.out (by decide)) _⟩; have m4 : Aside0 (WP.heap[g5]? = some (.cells #[.int .i64 a2] 3 (0, 0))) := ⟨by rw [hw]; exact blk_far BK5.out (blk_ne BK5.out BK7.out (by decide)) _⟩; have m5 : Aside0 (Below w.heap.size w WP) := ⟨by rw [hw]; exact below_set HB.out GE7.out⟩; clear BK7 BK112 BK4 BK5 HB hz7 hf7 hw; have BK7 := m1; have BK112 := m2; have BK4 := m3; have BK5 := m4; have HB := m5; clear m1 m2 m3 m4 m5; have hcz_0 : WP.cell? ⟨gb112, 0, none⟩ = some (.int .i64 a0_0) := (blk_cell BK112.out 0).trans rfl; have hcz_1 : WP.cell? ⟨gb112, 1, none⟩ = some (.slice A0_1 l0_1.length c0_1) := (blk_cell BK112.out 1).trans rfl; have hcz_2 : WP.cell? ⟨gb112, 2, none⟩ = some (.slice A0_2 l0_2.length c0_2) := (blk_cell BK112.out 2).trans rfl; have hcz_4 : WP.cell? ⟨g4, 0, none⟩ = some (.string a1) := (blk_cell BK4.out 0).trans rfl; have hcz_5 : WP.cell? ⟨g5, 0, none⟩ = some (.int .i64 a2) := (blk_cell BK5.out 0).trans rfl; have hcz_7 : WP.cell? ⟨g7, 0, none⟩ = some (.func (.func 37) #[] #[.pointer (some ⟨g4, 0, none⟩), .pointer (some ⟨g5, 0, none⟩)]) := (blk_cell BK7.out 0).trans rfl))
        go_ret
        exact ⟨by first | rfl | (simp [errW_none, errW_some] <;> rfl) | (simp [*, errW_none, errW_some] <;> rfl), by repeat (first | (with_reducible first | exact HB.out | apply below_alloc | apply pw_below_drewN | apply below_drew1 | refine below_set ?_ GE112.out) | exact HB.out)⟩
theorem eval_match.calls (k : Nat) (a0_0 : Int) (A0_1 : Option Addr) (c0_1 : Nat) (l0_1 : List ByteArray) (A0_2 : Option Addr) (c0_2 : Nat) (l0_2 : List (S40)) (a1 : ByteArray) (a2 : Int) (r : Bool) (w : World) (hG : GlobOk w) (hr0_1 : Kd.C Kd.string w A0_1 l0_1.length l0_1) (hc0_1 : l0_1.length ≤ c0_1) (hr0_2 : Kd.C k40 w A0_2 l0_2.length l0_2) (hc0_2 : l0_2.length ≤ c0_2) (h : eval_match.f k a0_0 l0_1 l0_2 a1 a2 = some r) :
  Calls Try.prog 33 #[.agg #[.int .i64 a0_0, .slice A0_1 l0_1.length c0_1, .slice A0_2 l0_2.length c0_2], .string a1, .int .i64 a2] w fun e w' => e = .returned (.bool r) ∧ Below w.heap.size w w' := by
 induction k generalizing a0_0 A0_1 c0_1 l0_1 A0_2 c0_2 l0_2 a1 a2 r w with
 | zero => simp [eval_match.f] at h
 | succ k ih => exact eval_match.step k ih a0_0 A0_1 c0_1 l0_1 A0_2 c0_2 l0_2 a1 a2 r w hG hr0_1 hc0_1 hr0_2 hc0_2 h

end Go.Proofs.Ytbbgnapepkenaaa.E
