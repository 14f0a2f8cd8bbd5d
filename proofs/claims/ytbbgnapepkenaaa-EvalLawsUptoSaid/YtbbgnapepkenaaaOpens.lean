/- What a law's argument reads as, kind by kind: a value that reads as data at a type is of the printed kind there. Over any program. No condition. -/
import Derived.Test.YtbbgnapepkenaaaWWords
import Derived.Test.YtbbgnapepkenaaaWMore
import Derived.DataReads
import Derived.WideShapes
import Derived.SizedLaws
import Derived.HandedShaped
import Derived.LaidLaws
import Derived.LaidMore
import Derived.Stop.Joined
import Derived.ChangeSlices
namespace Go.Proofs.Ytbbgnapepkenaaa.Opens
set_option linter.unusedVariables false
set_option linter.unusedSimpArgs false
open Go.RowKit Go.ChangeShapes Go.WideShapes Go.Proofs.YtbbgnapepkenaaaW.PrintWords

/-- What reads as data at type t, n deep at most, is of kind d, and good. -/
def Opens (P : Program) (t : TypeId) {α : Type} (d : Kd α) (G : α → Prop) (n : Nat) : Prop :=
  ∀ (H : Type) (enc : TypeId × Value → H) (W : World) (base : Nat) (spare : Nat → Bool) (held : Bool) (fuel : Nat) (cs : List Value) (y : DataW H × List MemPlace),
    fuel ≤ n → DataW.trod enc P W base spare held fuel t cs = some y → (∀ z ∈ y.1.weights P t, z ≤ reachBytes) → ∃ x, d.K W x cs ∧ G x
/-- The same of the last fields of a struct, from cell o on. -/
def OpensRest (P : Program) (fs : List Field) (o : Nat) {α : Type} (d : Kd α) (G : α → Prop) (n : Nat) : Prop :=
  ∀ (H : Type) (enc : TypeId × Value → H) (W : World) (base : Nat) (spare : Nat → Bool) (held : Bool) (fuel : Nat) (cs : List Value) (ys : List (DataW H × List MemPlace)),
    fuel ≤ n → cs.length = o + d.sz → (fs.mapM fun f => DataW.trod enc P W base spare held fuel f.type ((cs.drop f.offset).take (P.cellsOf f.type))) = some ys → (∀ z ∈ DataW.weightsEach P (fs.map (·.type)) (ys.map (·.1)), z ≤ reachBytes) → ∃ x, d.K W x (cs.drop o) ∧ G x
def both {α β : Type} (Ga : α → Prop) (Gb : β → Prop) (x : α × β) : Prop := Ga x.1 ∧ Gb x.2
section
variable {P : Program} {t : TypeId}
theorem Opens.weaken {α : Type} {d : Kd α} {G : α → Prop} {n m : Nat} (h : Opens P t d G n) (hm : m ≤ n) : Opens P t d G m :=
  fun H enc W base spare held fuel cs y hf hy hw => h H enc W base spare held fuel cs y (Nat.le_trans hf hm) hy hw
theorem Opens.good {α : Type} {d : Kd α} {G G' : α → Prop} {n : Nat} (h : Opens P t d G n) (hG : ∀ x, G x → G' x) : Opens P t d G' n :=
  fun H enc W base spare held fuel cs y hf hy hw => by
    obtain ⟨x, hx, hg⟩ := h H enc W base spare held fuel cs y hf hy hw
    exact ⟨x, hx, hG x hg⟩
theorem opens_int {k : IntKind} (hu : P.underlying t = some (.int k)) (n : Nat) : Opens P t (Kd.int k) (fun x => (Lit.int k x).wf = true) n := by
  intro H enc W base spare held fuel cs y _ hy hw
  cases fuel with
  | zero => simp [DataW.trod] at hy
  | succ fuel =>
    unfold DataW.trod at hy
    rw [hu] at hy
    split at hy <;> simp_all
    obtain ⟨⟨h1, h2⟩, _⟩ := hy
    exact ⟨_, by rw [← h1]; rfl, h2⟩
theorem opens_bool (hu : P.underlying t = some .bool) (n : Nat) : Opens P t Kd.bool (fun _ => True) n := by
  intro H enc W base spare held fuel cs y _ hy hw
  cases fuel with
  | zero => simp [DataW.trod] at hy
  | succ fuel =>
    unfold DataW.trod at hy
    rw [hu] at hy
    split at hy
    all_goals first | (simp_all; done) | exact ⟨_, rfl, trivial⟩
theorem opens_string (hu : P.underlying t = some .string) (n : Nat) : Opens P t Kd.string (fun x => x.size ≤ 140737488351232) n := by
  intro H enc W base spare held fuel cs y _ hy hw
  cases fuel with
  | zero => simp [DataW.trod] at hy
  | succ fuel =>
    unfold DataW.trod at hy
    rw [hu] at hy
    split at hy <;> simp_all
    obtain ⟨_, rfl⟩ := hy
    refine ⟨_, rfl, ?_⟩
    have h1 := hw _ (by simp [DataW.weights]; rfl)
    exact h1
theorem cells_get {w : World} {base : Nat} {a : Addr} {n : Nat} {cs : List Value} (h : w.cells? base a n = some cs) : cs.length = n ∧ ∀ i u, cs[i]? = some u → w.cell? (a.add i) = some u := by
  unfold World.cells? at h
  split at h
  · have hl := mapM_some_length h
    rw [List.length_range] at hl
    refine ⟨hl, fun i u hu => ?_⟩
    have hi : i < n := by
      rw [← hl]
      exact (List.getElem?_eq_some_iff.1 hu).1
    have := mapM_some_get h i i (by rw [List.getElem?_range hi])
    rw [this]
    exact hu
  · cases h
theorem add_add (a : Addr) (i j : Nat) : (a.add i).add j = a.add (i + j) := by
  unfold Addr.add
  split <;> split <;> split <;> simp_all <;> omega
theorem choose_list {α : Type} (n : Nat) (Q : Nat → α → Prop) (h : ∀ i, i < n → ∃ x, Q i x) : ∃ xs : List α, xs.length = n ∧ ∀ i x, xs[i]? = some x → Q i x := by
  induction n with
  | zero => exact ⟨[], rfl, fun i x hx => by simp at hx⟩
  | succ n ih =>
    obtain ⟨xs, hl, hx⟩ := ih (fun i hi => h i (by omega))
    obtain ⟨x, hq⟩ := h n (by omega)
    refine ⟨xs ++ [x], by simp [hl], fun i z hz => ?_⟩
    rcases Nat.lt_or_ge i n with hi | hi
    · rw [List.getElem?_append_left (by omega)] at hz
      exact hx i z hz
    · rw [List.getElem?_append_right (by omega)] at hz
      have : i - xs.length = 0 := by
        rcases Nat.eq_zero_or_pos (i - xs.length) with h0 | h0
        · exact h0
        · rw [List.getElem?_eq_none (by simp; omega)] at hz
          cases hz
      rw [this] at hz
      simp at hz
      subst hz
      have : i = n := by omega
      subst this
      exact hq
theorem weights_all {H : Type} {e : TypeId} {d : DataW H} : ∀ {l : List (DataW H)}, d ∈ l → ∀ z ∈ d.weights P e, z ∈ DataW.weightsAll P e l
  | [], h, _, _ => by cases h
  | x :: l, h, z, hz => by
    rw [DataW.weightsAll, List.mem_append]
    rcases List.mem_cons.1 h with rfl | h
    · exact .inl hz
    · exact .inr (weights_all h z hz)
theorem opens_slice {α : Type} {d : Kd α} {G : α → Prop} {e : TypeId} {n m : Nat} (hu : P.underlying t = some (.slice e)) (hc : P.cellsOf e = d.sz) (hb : 0 < P.bytesOf e) (hm : reachBytes / P.bytesOf e = m) (he : Opens P e d G (n - 1)) :
    Opens P t (Kd.slice e d) (fun xs => xs.length ≤ m ∧ ∀ x ∈ xs, G x) n := by
  intro H enc W base spare held fuel cs y hf hy hw
  cases fuel with
  | zero => simp [DataW.trod] at hy
  | succ fuel =>
    unfold DataW.trod at hy
    rw [hu] at hy
    split at hy
    case h_7 => exact ⟨[], ⟨none, 0, by rfl, Nat.zero_le _, rfl, by simp, fun h => absurd h (by simp)⟩, by simp, fun x hx => by cases hx⟩
    case h_8 e' a len cap hx =>
      simp only [Option.some.injEq, TypeDesc.slice.injEq] at hx
      subst hx
      dsimp only at hy
      split at hy
      · rename_i hbb
        obtain ⟨elems, h1, h2⟩ := Option.bind_eq_some_iff.mp hy
        obtain ⟨rest, h2, rfl⟩ := Option.map_eq_some_iff.1 h2
        clear hy h2
        have hww : ∀ z ∈ (elems.length + rest.length) * P.bytesOf e :: (DataW.weightsAll P e (elems.map (·.1)) ++ DataW.weightsAll P e (rest.map (·.1))), z ≤ reachBytes := by
          intro z hz
          refine hw z ?_
          rw [DataW.weights, hu]
          simpa using hz
        have hlen := mapM_some_length h1
        rw [List.length_range] at hlen
        obtain ⟨xs, hl, hxs⟩ := choose_list len (fun i x => (∃ c, c.length = d.sz ∧ d.K W x c ∧ ∀ k u, c[k]? = some u → W.cell? (a.add (i * d.sz + k)) = some u) ∧ G x) (fun i hi => by
          have := mapM_some_get h1 i i (by rw [List.getElem?_range hi])
          rw [List.getElem?_eq_getElem (by omega)] at this
          obtain ⟨c, hc1, hc2⟩ := Option.bind_eq_some_iff.mp this
          obtain ⟨h3, h4⟩ := cells_get hc1
          obtain ⟨x, hx, hg⟩ := he H enc W base spare held fuel c _ (by omega) hc2 (fun z hz => hww z (List.mem_cons_of_mem _ (List.mem_append_left _ (weights_all (List.mem_map_of_mem (List.getElem_mem _)) z hz))))
          refine ⟨x, ⟨c, by rw [h3, hc], hx, fun k u hu => ?_⟩, hg⟩
          rw [← add_add, ← hc]
          exact h4 k u hu)
        have hr := hww _ (List.mem_cons_self)
        have hbd : len ≤ m := by
          have h5 : elems.length + rest.length ≤ reachBytes / P.bytesOf e := (Nat.le_div_iff_mul_le hb).2 hr
          omega
        have hbe : len ≤ 140737488351232 := by
          have h5 : elems.length + rest.length ≤ (elems.length + rest.length) * P.bytesOf e := Nat.le_mul_of_pos_right _ hb
          have h6 : reachBytes = 140737488351232 := rfl
          omega
        refine ⟨xs, ⟨some a, cap, by rw [hl], by rw [hl]; exact hbb.2.1, rfl, ?_, fun _ => ⟨a, rfl, fun j p hj => (hxs j p hj).1⟩⟩, ?_, fun x hx => ?_⟩
        · omega
        · omega
        · obtain ⟨i, hi⟩ := List.mem_iff_getElem?.1 hx
          exact (hxs i x hi).2
      · cases hy
    all_goals first | (simp_all; done) | (rename_i hx _; cases hx; done) | (cases hy; done)
theorem rest_last {α : Type} {d : Kd α} {G : α → Prop} {f : Field} {o n : Nat} (ho : f.offset = o) (hc : P.cellsOf f.type = d.sz) (h : Opens P f.type d G n) : OpensRest P [f] o d G n := by
  intro H enc W base spare held fuel cs ys hf hl hy hw
  simp only [List.mapM_cons, List.mapM_nil, Option.pure_def, Option.bind_eq_bind, Option.bind_eq_some_iff] at hy
  obtain ⟨y, hy, zs, hzs, hys⟩ := hy
  obtain rfl : [] = zs := by simpa using hzs
  obtain rfl : [y] = ys := by simpa using hys
  rw [ho, hc, List.take_of_length_le (by simp; omega)] at hy
  exact h H enc W base spare held fuel _ _ hf hy (fun z hz => hw z (by simpa [DataW.weightsEach] using hz))
theorem rest_cons {α β : Type} {a : Kd α} {b : Kd β} {Ga : α → Prop} {Gb : β → Prop} {f : Field} {fs : List Field} {o n : Nat} (ho : f.offset = o) (hc : P.cellsOf f.type = a.sz) (h : Opens P f.type a Ga n) (hr : OpensRest P fs (o + a.sz) b Gb n) :
    OpensRest P (f :: fs) o (Kd.pair a b) (both Ga Gb) n := by
  intro H enc W base spare held fuel cs ys hf hl hy hw
  simp only [List.mapM_cons, Option.pure_def, Option.bind_eq_bind, Option.bind_eq_some_iff] at hy
  obtain ⟨y, hy, zs, hz, hys⟩ := hy
  obtain rfl : y :: zs = ys := by simpa using hys
  rw [ho, hc] at hy
  obtain ⟨x, hx, hg⟩ := h H enc W base spare held fuel _ _ hf hy (fun z hz => hw z (by rw [List.map_cons, List.map_cons, DataW.weightsEach]; exact List.mem_append_left _ hz))
  have hl' : cs.length = o + a.sz + b.sz := by
    rw [hl]
    show o + (a.sz + b.sz) = _
    omega
  obtain ⟨z, hz, hgz⟩ := hr H enc W base spare held fuel cs zs hf hl' hz (fun z hz => hw z (by rw [List.map_cons, List.map_cons, DataW.weightsEach]; exact List.mem_append_right _ hz))
  refine ⟨(x, z), ⟨_, _, ?_, hx, hz⟩, hg, hgz⟩
  rw [← List.drop_drop, List.take_append_drop]
theorem opens_struct {α β : Type} {d : Kd α} {f : β → α} {g : α → β} {G : α → Prop} {G' : β → Prop} {fs : Array Field} {n : Nat} (hu : P.underlying t = some (.struct fs)) (hc : P.cellsOf t = d.sz) (hfg : ∀ x, f (g x) = x) (hG : ∀ x, G x → G' (g x))
    (h : OpensRest P fs.toList 0 d G (n - 1)) : Opens P t (Kd.iso d f) G' n := by
  intro H enc W base spare held fuel cs y hf hy hw
  cases fuel with
  | zero => simp [DataW.trod] at hy
  | succ fuel =>
    unfold DataW.trod at hy
    rw [hu] at hy
    split at hy
    case h_9 _ hx =>
      simp only [Option.some.injEq, TypeDesc.struct.injEq] at hx
      subst hx
      split at hy
      · rename_i hl
        obtain ⟨ys, h1, h2⟩ := Option.map_eq_some_iff.1 hy
        subst h2
        obtain ⟨x, hx, hg⟩ := h H enc W base spare held fuel _ ys (by omega) (by omega) h1 (fun z hz => hw z (by rw [DataW.weights, hu]; exact hz))
        refine ⟨g x, ?_, hG x hg⟩
        show d.K W (f (g x)) _
        rw [hfg]
        exact hx
      · cases hy
    all_goals first | (simp_all; done) | (rename_i hx _; cases hx; done) | (cases hy; done)
/-- A type nested in itself. -/
theorem opens_fix {α : Type} {F : Kd α → Kd α} {sz : Nat} {E : List Nat} {hs : ∀ n, (Kd.upto F sz E n).sz = sz} {hE : ∀ n q, q ∈ (Kd.upto F sz E n).E → q ∈ E} {G : α → Prop}
    (hstep : ∀ (d : Kd α) n, d.sz = sz → Opens P t d G n → Opens P t (F d) G (n + 1)) (n : Nat) : Opens P t (Kd.fix F sz E hs hE) G n := by
  have key : ∀ n, Opens P t (Kd.upto F sz E n) G n := by
    intro n
    induction n with
    | zero =>
      intro H enc W base spare held fuel cs y hf hy hw
      obtain rfl : fuel = 0 := by omega
      simp [DataW.trod] at hy
    | succ n ih => exact hstep _ n (hs n) ih
  intro H enc W base spare held fuel cs y hf hy hw
  obtain ⟨x, hx, hg⟩ := key n H enc W base spare held fuel cs y hf hy hw
  exact ⟨x, ⟨n, hx⟩, hg⟩
/-- A slice that came in. -/
theorem open_row {H : Type} {enc : TypeId × Value → H} {W : World} {base : Nat} {spare : Nat → Bool} {held : Bool} {α : Type} {d : Kd α} {G : List α → Prop} {e : TypeId} {a : Option Addr} {len cap : Nat} {y : DataW H} {ps : List MemPlace}
    (ho : ∀ n, Opens P t (Kd.slice e d) G n) (h : DataW.Trod enc P W base spare held t (.slice a len cap) y ps) (hw : ∀ z ∈ y.weights P t, z ≤ reachBytes) : ∃ xs : List α, xs.length = len ∧ len ≤ cap ∧ d.C W a xs.length xs ∧ G xs := by
  obtain ⟨fuel, hf⟩ := h
  obtain ⟨xs, ⟨A, c, hcs, hl, hr⟩, hg⟩ := ho fuel H enc W base spare held fuel _ _ (Nat.le_refl _) hf hw
  simp only [Value.cells, List.cons.injEq, and_true, Value.slice.injEq] at hcs
  obtain ⟨rfl, rfl, rfl⟩ := hcs
  exact ⟨xs, rfl, hl, hr, hg⟩
/-- A struct that came in by value. -/
theorem open_value {H : Type} {enc : TypeId × Value → H} {W : World} {base : Nat} {spare : Nat → Bool} {held : Bool} {r : Reach} {α : Type} {d : Kd α} {G : α → Prop} {fs : Array Field} {v : Value} {b0 : Nat} {y : DataW H} {ps : List MemPlace}
    (hu : P.underlying t = some (.struct fs)) (hv : Value.okWide P W r b0 t v) (ho : ∀ n, Opens P t d G n) (h : DataW.Trod enc P W base spare held t v y ps) (hw : ∀ z ∈ y.weights P t, z ≤ reachBytes) : ∃ x cs, v = .agg cs ∧ d.K W x cs.toList ∧ G x := by
  obtain ⟨cs, rfl, _⟩ := okWide_struct hu hv
  obtain ⟨fuel, hf⟩ := h
  obtain ⟨x, hx, hg⟩ := ho fuel H enc W base spare held fuel _ _ (Nat.le_refl _) hf hw
  exact ⟨x, cs, rfl, hx, hg⟩
/-- An argument's strings and rows are no longer than may be. -/
theorem sized_arg {H : Type} {ts : List TypeId} {ds : List (DataW H)} (h : (DataW.weightsEach P ts ds).all (· ≤ reachBytes) = true) {j : Nat} {u : TypeId} {d : DataW H} (ht : ts[j]? = some u) (hd : ds[j]? = some d) : ∀ z ∈ d.weights P u, z ≤ reachBytes :=
  fun z hz => by simpa using List.all_eq_true.1 h _ (DataW.weights_mem_each ht hd z hz)
/-- What came in, as what is shared. -/
theorem V_came {α : Type} {d : Kd α} (hd : Kd.Heap d) {e base c : Nat} {W : World} {A : Option Addr} {xs : List α} (hc : xs.length ≤ c) (hr : d.C W A xs.length xs) : Kd.V d e W base (fun _ => True) (.slice A xs.length c) xs :=
  Kd.V_mk hc (fun _ hW => hd.C (fun k hk => hW k trivial hk) hr)
end
/-- The plain wrap of a row that lists variables: the reach, what is laid, the world's shape are handed on. -/
theorem returns_laid {H : Type} {enc : TypeId × Value → H} {a : Assume} {C : Checked} {os : Os} {f : FuncId} {fn : Func} {s : ChangeSpec} {conds : List PathCond} {apart fresh handsOn again : Bool} {laid : List (String × DataW Unit)}
    (own : ownKnob C.prog.godebug = none) (started : os.Started) (noInit : C.prog.inits.idxOf? f = none) (hfn : C.prog.funcs[f]? = some fn)
    (witness : ∃ (w : World) (tape : Tape) (i : Input), w.os = os ∧ (w.forCall tape i).Shaped C.prog ∧ i.vars = [] ∧ Input.okWide C.prog (w.forCall tape i) .any w.heap.size f i ∧
      ((s.pre enc C.prog fn conds apart (w.forCall tape i).memory i.args ∧ laidMetH C.prog laid (w.forCall tape i).memory) ∧ sizedMet enc C.prog fn (OpenSpec.ofChange s) apart (w.forCall tape i).memory i.args) ∧ a.holds C.prog (lone (Frame.enter C.prog f i.args .normal) [] (w.forCall tape i)))
    (contract : ∀ (W : World) (base : Nat) (args : Array Value) (ds gs : List (DataW H)) (before : List MemPlace),
      (∀ (j : Nat) t v, fn.params[j]? = some t → args[j]? = some v → Value.okWide C.prog W .any base t v) →
      DataW.Whole enc C.prog fn.params.toList s.vars apart W args.toList ds gs before →
      conds.all (PathCond.test C.prog ⟨fn.params.toList, ds, s.plain.varTypes C.prog, gs⟩) = true →
      (DataW.weightsEach C.prog (fn.params.toList ++ s.plain.varTypes C.prog) (ds ++ gs)).all (· ≤ reachBytes) = true →
      laidMetH C.prog laid W →
      W.ShapedOpen C.prog →
      a.holds C.prog (lone (Frame.enter C.prog f args .normal) [] W) →
      Calls C.prog f args W fun e W' => ∃ v, e = .returned v ∧ s.post enc C.prog fn apart fresh handsOn again W args v W') :
    ReturnsInHanded a C os f .any (fun w args => (s.pre enc C.prog fn conds apart w args ∧ laidMetH C.prog laid w) ∧ sizedMet enc C.prog fn (OpenSpec.ofChange s) apart w args) (s.post enc C.prog fn apart fresh handsOn again) := by
  refine returnsInHanded_of_calls own started noInit witness ?_
  intro w tape i _ hsh _ hok hpre hholds
  obtain ⟨_, _, _, fn', hfn', _, _, _, _, hval⟩ := hok
  have e : fn' = fn := Option.some.inj (hfn'.symm.trans hfn)
  subst e
  obtain ⟨⟨⟨ds, gs, before, hw, hc⟩, hx⟩, hz⟩ := hpre
  have hw' := DataW.Whole.of_heap (w' := w.forCall tape i) (by rfl) hw
  refine (contract (w.forCall tape i) w.heap.size i.args ds gs before hval hw' hc (hz.weights hw) (laidMetH.of_heap (by rfl) hx) hsh hholds).mono fun e W' ⟨v, he, hp⟩ => ?_
  subst he
  exact ChangeSpec.post_blind hp
end Go.Proofs.Ytbbgnapepkenaaa.Opens
