/- A map that a call has made, told by its entries as a Lean function: what look-up, store, delete and len do to it. Over any program. No condition. -/
import Derived.Test.YtbbgnapepkenaaaWMore
import Derived.Maps.GroupsBeside
import Derived.Maps.Views
namespace Go.Proofs.Ytbbgnapepkenaaa.VMap
set_option linter.unusedVariables false
set_option linter.unusedSimpArgs false
open Go.RowKit Go.Maps Go.WideElems Go.MapKept Go.ChangeMaps

/-- A reader that tells nothing but that something is there. -/
def R1 : Value → Option (DataW Unit × List MemPlace) := fun _ => some (.lit (.bool true), [])
def dat (P : Program) (k : TypeId) (es : Array MapEntry) : DataW Unit := .map ((es.toList.map (rg P k R1)).foldr DataW.insert [])
/-- Block b is a map of n entries: at key y (as a Lean value) it holds M y. -/
def VMap {κ : Type} (enc : κ → Value) (P : Program) (k : TypeId) (w : World) (b n : Nat) (M : κ → Option Value) : Prop :=
  ∃ es clock, w.heap[b]? = some (.map es clock) ∧ Fit P k R1 es clock ∧ es.size = n ∧
    (∀ x ∈ es.toList, ∃ y, x.key = enc y ∧ M y = some x.val) ∧ ∀ y v, M y = some v → ∃ x ∈ es.toList, x.key = enc y ∧ x.val = v
section
variable {κ : Type} {enc : κ → Value} {P : Program} {k t E : TypeId} {w w' : World} {b n : Nat} {M : κ → Option Value}
theorem VMap.made (w : World) (P : Program) (k : TypeId) (enc : κ → Value) : VMap enc P k (w.alloc (.map #[] 0)) w.heap.size 0 (fun _ => none) :=
  ⟨#[], 0, (MapKept.heap_alloc w _).1, ⟨by simp, stamped_empty 0, by simp⟩, rfl, by simp, by simp⟩
theorem VMap.lt (h : VMap enc P k w b n M) : b < w.heap.size := by
  obtain ⟨es, clock, hb, _⟩ := h
  exact (Array.getElem?_eq_some_iff.1 hb).1
theorem VMap.same (h : VMap enc P k w b n M) (hb : w'.heap[b]? = w.heap[b]?) : VMap enc P k w' b n M := by
  obtain ⟨es, clock, h1, r⟩ := h
  exact ⟨es, clock, hb.trans h1, r⟩
theorem VMap.grown (h : VMap enc P k w b n M) {row : Option Nat} (hg : w.grownBy w' row) (hne : some b ≠ row) : VMap enc P k w' b n M := h.same (hg.block b h.lt hne)
theorem VMap.below (h : VMap enc P k w b n M) (hb : Below w.heap.size w w') : VMap enc P k w' b n M := h.same (hb.block b h.lt)
theorem VMap.congr {M' : κ → Option Value} (h : VMap enc P k w b n M) (e : ∀ y, M y = M' y) : VMap enc P k w b n M' := by
  obtain rfl : M = M' := funext e
  exact h
/-- A block of cells is another one. -/
theorem VMap.ne {g : Nat} {cs : Array Value} {q : TypeId} {fr : Nat × Nat} (h : VMap enc P k w b n M) (hg : w.heap[g]? = some (.cells cs q fr)) : g ≠ b := by
  obtain ⟨es, clock, h1, _⟩ := h
  rintro rfl
  rw [h1] at hg
  cases hg
theorem found {es : Array MapEntry} {clock : Nat} (K : Keyed P k) (ht : P.underlying t = some (.map k E)) {z : Value} (hz : (zeroValue E).run P w = .ok z w) (hb : w.heap[b]? = some (.map es clock)) (F : Fit P k R1 es clock) {key : Value} {kl : Lit} (hkey : keyOf P k key = some kl) :
    (∃ x ∈ es.toList, x.key = key) ↔ (dat P k es).atKey kl .nil = .lit (.bool true) := by
  rcases Maps.fit_look false K ht hz hb F hkey with ⟨_, h2, h3⟩ | ⟨e0, y, h1, h2, _, h3, h4, _⟩
  · constructor
    · rintro ⟨x, hx, he⟩
      exact absurd he (h2 x hx)
    · intro h
      have := h3 .nil
      unfold dat at h
      rw [this] at h
      cases h
  · constructor
    · intro _
      unfold dat
      rw [h4]
      cases h3
      rfl
    · intro _
      exact ⟨e0, h1, h2⟩
/-- What a look-up answers. -/
theorem VMap.look (h : VMap enc P k w b n M) (hinj : ∀ x y, enc x = enc y → x = y) (K : Keyed P k) (ht : P.underlying t = some (.map k E)) {z : Value} (hz : (zeroValue E).run P w = .ok z w) (y : κ) {kl : Lit} (hkey : keyOf P k (enc y) = some kl) :
    (Instr.lookup t (.map (some b)) (enc y) false).run P w = .ok ((M y).getD z) w := by
  obtain ⟨es, clock, hb, F, _, h1, h2⟩ := h
  rcases Maps.fit_look false K ht hz hb F hkey with ⟨hr, hn, _⟩ | ⟨e0, _, h3, h4, hr, _⟩
  · have : M y = none := by
      cases hm : M y with
      | none => rfl
      | some v =>
        obtain ⟨x, hx, he, _⟩ := h2 y v hm
        exact absurd he (hn x hx)
    rw [this]
    exact hr
  · obtain ⟨y', hy, hm⟩ := h1 e0 h3
    obtain rfl := hinj _ _ (hy.symm.trans h4)
    rw [hm]
    exact hr
theorem VMap.lookOk (h : VMap enc P k w b n M) (hinj : ∀ x y, enc x = enc y → x = y) (K : Keyed P k) (ht : P.underlying t = some (.map k E)) {z : Value} (hz : (zeroValue E).run P w = .ok z w) (y : κ) {kl : Lit} (hkey : keyOf P k (enc y) = some kl) :
    (Instr.lookup t (.map (some b)) (enc y) true).run P w = .ok (.tuple #[(M y).getD z, .bool (M y).isSome]) w := by
  obtain ⟨es, clock, hb, F, _, h1, h2⟩ := h
  rcases Maps.fit_look true K ht hz hb F hkey with ⟨hr, hn, _⟩ | ⟨e0, _, h3, h4, hr, _⟩
  · have : M y = none := by
      cases hm : M y with
      | none => rfl
      | some v =>
        obtain ⟨x, hx, he, _⟩ := h2 y v hm
        exact absurd he (hn x hx)
    rw [this]
    exact hr
  · obtain ⟨y', hy, hm⟩ := h1 e0 h3
    obtain rfl := hinj _ _ (hy.symm.trans h4)
    rw [hm]
    exact hr
/-- What a store does. -/
theorem VMap.put [DecidableEq κ] (h : VMap enc P k w b n M) (hinj : ∀ x y, enc x = enc y → x = y) (K : Keyed P k) (ht : P.underlying t = some (.map k E)) {z : Value} (hz : ∀ w, (zeroValue E).run P w = .ok z w) (hkeys : ∀ y, M y ≠ none → ∃ kl, keyOf P k (enc y) = some kl) (y : κ) {kl : Lit} (hkey : keyOf P k (enc y) = some kl) (v : Value) (hn : n < maxLen) :
    ∃ w2, (Instr.mapUpdate t (.map (some b)) (enc y) v).run P w = .ok () w2 ∧ VMap enc P k w2 b (if (M y).isSome then n else n + 1) (fun x => if x = y then some v else M x) ∧ w.grownBy w2 (some b) := by
  obtain ⟨es, clock, hb, F, hs, h1, h2⟩ := h
  obtain ⟨es', clock', hrun, F', hput, _, _, hwho⟩ := Maps.fit_store (R' := R1) (val := v) K ht hb F (by omega) (fun _ _ _ _ h => h) hkey rfl
  have hb' : (setBlock w b (.map es' clock')).heap[b]? = some (.map es' clock') := heap_setBlock_same hb _
  have hkl : WideAt.IsKeyLit kl := K.key hkey
  have hD : dat P k es' = (dat P k es).put kl (.lit (.bool true)) := by
    unfold dat
    rw [DataW.put_eq, hput]
  have hsz : es'.size = if (M y).isSome then n else n + 1 := by
    have e1 : es'.size = ((es'.toList.map (rg P k R1)).foldr DataW.insert []).length := by rw [length_sorted]; simp
    have e2 : es.size = ((es.toList.map (rg P k R1)).foldr DataW.insert []).length := by rw [length_sorted]; simp
    have hr : DataW.rising ((es.toList.map (rg P k R1)).foldr DataW.insert []) = true := Maps.fit_rising K F
    have ht' : Tidy (dat P k es) := by
      exact World.ownsMap.tidy (w := w) (b := b) (n := n) ⟨es, clock, hb, F, by omega, rfl⟩ K
    have hsize := Maps.size_put (k := kl) ht' (.lit (.bool true))
    rw [← hD] at hsize
    have hhas : Maps.has (dat P k es) kl = (M y).isSome := by
      have hf := found (w := w) K ht (hz w) hb F hkey
      cases hm : M y with
      | none =>
        cases hh : Maps.has (dat P k es) kl with
        | false => rfl
        | true =>
          exfalso
          have hno : ¬ ∃ x ∈ es.toList, x.key = enc y := by
            rintro ⟨x, hx, he⟩
            obtain ⟨y', hy, hm'⟩ := h1 x hx
            obtain rfl := hinj _ _ (hy.symm.trans he)
            rw [hm] at hm'
            cases hm'
          rcases Maps.fit_look false K ht (hz w) hb F hkey with ⟨_, _, h3⟩ | ⟨e0, _, h3, h4, _⟩
          · have := has_false_of_atKey h3
            unfold dat at hh
            rw [this] at hh
            cases hh
          · exact hno ⟨e0, h3, h4⟩
      | some u =>
        obtain ⟨x, hx, he, _⟩ := h2 y u hm
        rcases Maps.fit_look false K ht (hz w) hb F hkey with ⟨_, h3, _⟩ | ⟨e0, y0, h3, h4, _, _, h5, _⟩
        · exact absurd he (h3 x hx)
        · have := has_true_of_atKey h5
          unfold dat
          rw [this]
          rfl
    have hs1 : Maps.size (dat P k es') = es'.size := by rw [e1]; rfl
    have hs2 : Maps.size (dat P k es) = es.size := by rw [e2]; rfl
    rw [hs1, hs2, hhas, hs] at hsize
    exact hsize
  refine ⟨_, hrun, ⟨es', clock', hb', F', hsz, fun x hx => ?_, fun y' v' hv' => ?_⟩, ⟨rfl, rfl, rfl, by simp [setBlock], fun i _ hi => heap_setBlock_other hb _ (fun e1 => hi (by rw [e1]))⟩⟩
  · rcases hwho x hx with ⟨hx0, hne⟩ | ⟨hk', hv'⟩
    · obtain ⟨y', hy, hm⟩ := h1 x hx0
      refine ⟨y', hy, ?_⟩
      show (if y' = y then some v else M y') = _
      rw [if_neg (fun e => hne (by rw [hy, e]))]
      exact hm
    · exact ⟨y, hk', by show (if y = y then some v else M y) = _; rw [if_pos rfl, hv']⟩
  · replace hv' : (if y' = y then some v else M y') = some v' := hv'
    by_cases e : y' = y
    · subst e
      rw [if_pos rfl] at hv'
      obtain rfl := Option.some.inj hv'
      have hf := (found (w := setBlock w b (.map es' clock')) K ht (hz _) hb' F' hkey).2 (by rw [hD]; exact atKey_put_same ⟨_, rfl⟩ hkl _ _)
      obtain ⟨x, hx, he⟩ := hf
      rcases hwho x hx with ⟨_, hne⟩ | ⟨_, hv'⟩
      · exact absurd he hne
      · exact ⟨x, hx, he, hv'⟩
    · rw [if_neg e] at hv'
      obtain ⟨x, hx, he, hxv⟩ := h2 y' v' hv'
      obtain ⟨kl', hkey'⟩ := hkeys y' (by rw [hv']; simp)
      have hne : kl' ≠ kl := by
        rintro rfl
        exact e (hinj _ _ (K.inj hkey' hkey))
      have hf0 := (found (w := w) K ht (hz w) hb F hkey').1 ⟨x, hx, he⟩
      have hf := (found (w := setBlock w b (.map es' clock')) K ht (hz _) hb' F' hkey').2 (by rw [hD, atKey_put_other hne]; exact hf0)
      obtain ⟨x', hx', he'⟩ := hf
      rcases hwho x' hx' with ⟨hx0, _⟩ | ⟨hk', _⟩
      · refine ⟨x', hx', he', ?_⟩
        obtain ⟨y2, hy2, hm2⟩ := h1 x' hx0
        obtain rfl := hinj _ _ (hy2.symm.trans he')
        rw [hv'] at hm2
        exact (Option.some.inj hm2).symm
      · exact absurd (hinj _ _ (he'.symm.trans hk')) e
end
end Go.Proofs.Ytbbgnapepkenaaa.VMap
