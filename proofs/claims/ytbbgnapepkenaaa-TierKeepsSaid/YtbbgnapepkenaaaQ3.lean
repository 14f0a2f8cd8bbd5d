-- Written for this claim by a program of this session (over the kit's print tool): functions as Lean functions, their contracts, rows. Lean checks it.
import Derived.Test.YtbbgnapepkenaaaQ0
namespace Go.Proofs.Ytbbgnapepkenaaa.Q
open Go.RowKit Go.Proofs.YtbbgnapepkenaaaW.PrintWords Go.Proofs.YtbbgnapepkenaaaW.PrintLast Go.Proofs.YtbbgnapepkenaaaW.PrintMore
attribute [local go_sem] max2_int min2_int max_two min_two max_three min_three max_four min_four   -- for this text's walks alone
set_option linter.unusedVariables false
set_option linter.unusedSimpArgs false

/-! ### tier_Plan: function 15 -/
section
open Go.Maps Go.Proofs.Ytbbgnapepkenaaa.VMap Go.Proofs.Ytbbgnapepkenaaa.TierP
theorem zero23 (w : World) : (zeroValue 23).run Try.prog w = .ok (.slice none 0 0) w := by kernel_rfl
abbrev encI : Int → Value := Value.int .i64
theorem encI_inj : ∀ x y, encI x = encI y → x = y := fun x y h => by injection h
/-- What holds in the loop: the map's rows tell of the first j levels, the levels of which there are too many of the first k. -/
structure TRel (w wr : World) (ls : List Int) (j k : Nat) (v5 : Value) : Prop where
  ex : ∃ n M, n ≤ j ∧ VMap encI Try.prog 3 wr w.heap.size n M ∧ (∀ y, M y ≠ none → (Lit.int .i64 y).wf = true) ∧
    (∀ y, wr.ownsRow w.heap.size 3 1 ((M y).getD (.slice none 0 0)) (idx (ls.take j) y).length (nums .i64 (idx (ls.take j) y))) ∧
    (∀ y y', y ≠ y' → ((M y).getD (.slice none 0 0)).ownBlock = none ∨ ((M y).getD (.slice none 0 0)).ownBlock ≠ ((M y').getD (.slice none 0 0)).ownBlock) ∧
    (∀ y, ((M y).getD (.slice none 0 0)).ownBlock = none ∨ ((M y).getD (.slice none 0 0)).ownBlock ≠ v5.ownBlock)
  lv : wr.ownsRow w.heap.size 3 1 v5 (over ls k).length (nums .i64 (over ls k))
  bel : Below w.heap.size w wr
theorem TRel.start (w : World) (ls : List Int) : TRel w (w.alloc (.map #[] 0)) ls 0 0 (.slice none 0 0) := by
  refine ⟨⟨0, fun _ => none, Nat.le_refl _, VMap.made _ _ _ _, fun y h => absurd rfl h, fun y => ?_, fun y y' _ => .inl rfl, fun y => .inl rfl⟩, ?_, (Below.refl _ _).alloc (Nat.le_refl _) _⟩
  · have : idx (ls.take 0) y = [] := by simp [idx]
    rw [this]
    exact own_nil _ _ _ _
  · exact own_nil _ _ _ _
theorem ne_map {w : World} {κ : Type} {enc : κ → Value} {P : Program} {k b n base : Nat} {M : κ → Option Value} {e size m : Nat} {v : Value} {xs : List Value} (h : VMap enc P k w b n M) (ho : w.ownsRow base e size v m xs) : some b ≠ v.ownBlock := fun e => by
  obtain ⟨cs, hc⟩ := own_typed ho b e.symm
  exact h.ne hc rfl
theorem TRel.below {w wr W : World} {ls : List Int} {j k : Nat} {v5 : Value} (T : TRel w wr ls j k v5) (hb : Below wr.heap.size wr W) : TRel w W ls j k v5 := by
  obtain ⟨⟨n, M, h1, h2, h2', h3, h4, h5⟩, h6, h7⟩ := T
  exact ⟨⟨n, M, h1, h2.below hb, h2', fun y => pw_own_below (h3 y) hb, h4, h5⟩, pw_own_below h6 hb, below_then h7 h7.size hb⟩
theorem own_new_ne {W : World} {base e size n : Nat} {u v v1 : Value} {xs : List Value} (hu : W.ownsRow base e size u n xs) (hne : u.ownBlock = none ∨ u.ownBlock ≠ v.ownBlock)
    (hat : v1.ownBlock = v.ownBlock ∨ ∃ b, v1.ownBlock = some b ∧ W.heap.size ≤ b) : u.ownBlock = none ∨ u.ownBlock ≠ v1.ownBlock := by
  rcases hat with h | ⟨b, h, hb⟩
  · rw [h]
    exact hne
  · cases hx : u.ownBlock with
    | none => exact .inl rfl
    | some g =>
      refine .inr (fun e => ?_)
      have := own_lt hu g hx
      rw [h] at e
      injection e with e
      omega
/-- Behind the store into the map. -/
theorem TRel.put {w W w1 w2 : World} {ls : List Int} {k : Nat} {v5 : Value} {n : Nat} {M : Int → Option Value} {lev : Int} {v1 : Value}
    (hk : k < ls.length) (hlev : ls.getD k 0 = lev) (hwf : (Lit.int .i64 lev).wf = true) (hn : n ≤ k) (hV : VMap encI Try.prog 3 W w.heap.size n M) (hM : ∀ y, M y ≠ none → (Lit.int .i64 y).wf = true)
    (hr : ∀ y, W.ownsRow w.heap.size 3 1 ((M y).getD (.slice none 0 0)) (idx (ls.take k) y).length (nums .i64 (idx (ls.take k) y)))
    (ha : ∀ y y', y ≠ y' → ((M y).getD (.slice none 0 0)).ownBlock = none ∨ ((M y).getD (.slice none 0 0)).ownBlock ≠ ((M y').getD (.slice none 0 0)).ownBlock)
    (h5 : ∀ y, ((M y).getD (.slice none 0 0)).ownBlock = none ∨ ((M y).getD (.slice none 0 0)).ownBlock ≠ v5.ownBlock)
    (hl : W.ownsRow w.heap.size 3 1 v5 (over ls k).length (nums .i64 (over ls k))) (hb : Below w.heap.size w W)
    (hg1 : W.grownBy w1 ((M lev).getD (.slice none 0 0)).ownBlock) (ho1 : w1.ownsRow w.heap.size 3 1 v1 ((idx (ls.take k) lev).length + 1) (nums .i64 (idx (ls.take k) lev) ++ [.int .i64 k]))
    (hat : v1.ownBlock = ((M lev).getD (.slice none 0 0)).ownBlock ∨ ∃ b, v1.ownBlock = some b ∧ W.heap.size ≤ b) (hb1 : Below w.heap.size w w1)
    (hV2 : VMap encI Try.prog 3 w2 w.heap.size (if (M lev).isSome then n else n + 1) (fun x => if x = lev then some v1 else M x)) (hg2 : w1.grownBy w2 (some w.heap.size)) (hV1 : VMap encI Try.prog 3 w1 w.heap.size n M) : TRel w w2 ls (k + 1) k v5 := by
  have hb2 : Below w.heap.size w w2 := hb1.grown hg2 hb1.size (fun k e => by cases e; exact Nat.le_refl _)
  have key : ∀ {u : Value} {m : Nat} {xs : List Value}, W.ownsRow w.heap.size 3 1 u m xs → (u.ownBlock = none ∨ u.ownBlock ≠ ((M lev).getD (.slice none 0 0)).ownBlock) → w2.ownsRow w.heap.size 3 1 u m xs := by
    intro u m xs hu hne
    have h1 := hu.kept hg1 hne
    exact h1.kept hg2 (.inr (fun e => ne_map hV1 h1 e.symm))
  refine ⟨⟨_, _, ?_, hV2, fun y hy => ?_, fun y => ?_, fun y y' hne => ?_, fun y => ?_⟩, key hl ?_, hb2⟩
  · split <;> omega
  · by_cases e : y = lev
    · rw [e]; exact hwf
    · exact hM y (by simpa [e] using hy)
  · show w2.ownsRow _ _ _ ((if y = lev then some v1 else M y).getD _) _ _
    rw [idx_step ls k hk, hlev]
    by_cases e : y = lev
    · subst e
      rw [if_pos rfl, if_pos rfl]
      have h1 := ho1.kept hg2 (.inr (fun e => ne_map hV1 ho1 e.symm))
      rw [List.length_append, nums_append]
      exact h1
    · rw [if_neg e, if_neg (fun h => e h.symm), List.append_nil]
      exact key (hr y) (ha y lev e)
  · show ((if y = lev then some v1 else M y).getD _).ownBlock = none ∨ _ ≠ ((if y' = lev then some v1 else M y').getD _).ownBlock
    by_cases e : y = lev
    · subst e
      rw [if_pos rfl, if_neg (fun h => hne h.symm)]
      rcases own_new_ne (hr y') (ha y' y (fun h => hne h.symm)) hat with h | h
      · cases hv : v1.ownBlock with
        | none => exact .inl (by simp [hv])
        | some g => exact .inr (by simp [hv, h])
      · exact .inr (fun e => h e.symm)
    · rw [if_neg e]
      by_cases e' : y' = lev
      · subst e'
        rw [if_pos rfl]
        exact own_new_ne (hr y) (ha y y' hne) hat
      · rw [if_neg e']
        exact ha y y' hne
  · show ((if y = lev then some v1 else M y).getD _).ownBlock = none ∨ _
    by_cases e : y = lev
    · subst e
      rw [if_pos rfl]
      rcases hat with h | ⟨b, h, hbb⟩
      · show v1.ownBlock = none ∨ v1.ownBlock ≠ _
        rw [h]
        exact h5 y
      · refine .inr (fun e => ?_)
        have e' : v1.ownBlock = v5.ownBlock := e
        have := own_lt hl b (by rw [← e', h])
        omega
    · rw [if_neg e]
      exact h5 y
  · rcases h5 lev with h | h
    · cases hv : v5.ownBlock with
      | none => exact .inl rfl
      | some g => exact .inr (by rw [h]; simp)
    · exact .inr (fun e => h e.symm)
theorem TRel.stay {w W : World} {ls : List Int} {k : Nat} {v5 : Value} (T : TRel w W ls (k + 1) k v5) (hc : (idx (ls.take (k + 1)) (ls.getD k 0)).length ≠ 4) : TRel w W ls (k + 1) (k + 1) v5 := by
  obtain ⟨h1, h2, h3⟩ := T
  refine ⟨h1, ?_, h3⟩
  rw [over, if_neg hc, List.append_nil]
  exact h2
theorem TRel.more {w W w1 : World} {ls : List Int} {k : Nat} {v5 v' : Value} {lev : Int} (T : TRel w W ls (k + 1) k v5) (hlev : ls.getD k 0 = lev) (hc : (idx (ls.take (k + 1)) lev).length = 4)
    (hg : W.grownBy w1 v5.ownBlock) (ho : w1.ownsRow w.heap.size 3 1 v' ((over ls k).length + 1) (nums .i64 (over ls k) ++ [.int .i64 lev])) (hat : v'.ownBlock = v5.ownBlock ∨ ∃ b, v'.ownBlock = some b ∧ W.heap.size ≤ b) (hb : Below w.heap.size w w1) : TRel w w1 ls (k + 1) (k + 1) v' := by
  subst hlev
  obtain ⟨⟨n, M, h1, h2, h2', h3, h4, h5⟩, h6, h7⟩ := T
  refine ⟨⟨n, M, h1, h2.grown hg (ne_map h2 h6), h2', fun y => (h3 y).kept hg (h5 y), h4, fun y => own_new_ne (h3 y) (h5 y) hat⟩, ?_, hb⟩
  rw [over, if_pos hc, List.length_append, nums_append]
  exact ho
theorem wp_name {P : Program} {c : Code} {Q : Exit → Act → World → Prop} {a : Act} {W : World} (h : ∀ W1, W1 = W → c.wp P Q a W1) : c.wp P Q a W := h W rfl
theorem R_of_nums {w : World} {base : Nat} {v : Value} {xs : List Int} (h : w.ownsRow base 3 1 v xs.length (nums .i64 xs)) : Kd.R (Kd.int .i64) 3 w base (fun _ => True) v xs := ⟨fun _ _ => trivial, nums .i64 xs, h, Kd.reps_scalar xs⟩
theorem wf_lo {n : Int} (h : (Lit.int .i64 n).wf = true) : -9223372036854775808 ≤ n := by
  have h1 : (decide (IntKind.i64.min ≤ n) && decide (n ≤ IntKind.i64.max)) = true := h
  rw [Bool.and_eq_true, decide_eq_true_eq, decide_eq_true_eq] at h1
  have e1 : IntKind.i64.min = -9223372036854775808 := rfl
  omega
set_option maxHeartbeats 4000000 in
set_option maxRecDepth 100000 in
theorem tier_walk (A0 : Option Addr) (c0 : Nat) (l0 : List S25) (w : World) (hr0 : Kd.C k25 w A0 l0.length l0) (hc0 : l0.length ≤ c0) (hl : l0.length ≤ 1000) (hwf : ∀ x ∈ l0, (Lit.int .i64 x.f2).wf = true) :
    Calls Try.prog 15 #[.slice A0 l0.length c0] w fun e w' => ∃ v0_ : Value, e = .returned (.tuple #[v0_, .int .i64 (planS (l0.map (·.f2))).2]) ∧ Kd.R (Kd.int .i64) 3 w' w.heap.size (fun _ => True) v0_ (planS (l0.map (·.f2))).1 ∧ Below w.heap.size w w' := by
  have HR0 := Aside0.mk hr0
  have HC0 := Aside0.mk hc0
  have HWF := Aside0.mk hwf
  have HL0 := Aside0.mk hl
  clear hr0 hc0 hwf hl
  have hmm := @run_makeMap Try.prog
  have hu := Try.underlying25
  go_enter Try.func15, Try.ntmps15
  go_wp2
  go_loopw [5, 13] (fun v5 v13 wr => ∃ x13 : Int, v13 = .int .i64 x13 ∧ Aside0 (0 ≤ x13 ∧ x13 ≤ l0.length) ∧ Aside0 (TRel w wr (l0.map (·.f2)) x13.toNat x13.toNat v5))
    (fun _ i _ => l0.length - (intOf i).toNat)
  case atStart => exact ⟨0, rfl, ⟨by omega⟩, ⟨TRel.start _ _⟩⟩
  case round =>
    obtain ⟨x13, rfl, HK, HT⟩ := hrel
    by_cases c3 : x13 < (l0.length : Int)
    · have c3b0 : decide (x13 < (l0.length : Int)) = true := decide_eq_true c3
      have p104 : 0 ≤ (x13 : Int) := HK.out.1
      obtain ⟨ad104, e104, hx104_0, hx104_1, hx104_2, hx104_3⟩ := at_T25 HR0.out x13 p104 c3
      cases e104
      have c3b1 := Aside0.mk c3
      clear c3
      have HB := Aside0.mk HT.out.bel
      replace hx104_0 := (HB.out.cell (World.block_lt_of_cell? w _ hx104_0)).trans hx104_0
      replace hx104_1 := (HB.out.cell (World.block_lt_of_cell? w _ hx104_1)).trans hx104_1
      replace hx104_2 := (HB.out.cell (World.block_lt_of_cell? w _ hx104_2)).trans hx104_2
      replace hx104_3 := (HB.out.cell (World.block_lt_of_cell? w _ hx104_3)).trans hx104_3
      replace p104 := eq_true p104
      have q104 := eq_true (show x13 < (l0.length : Int) from c3b1.out)
      have hw13 : (x13 + 1 : Int) = x13 + 1 := rfl
      have b13 : x13 < 9223372036854775807 := by have := c3b1.out; have := HL0.out; omega
      have a13 : 0 ≤ x13 := HK.out.1
      clear hw13
      go_wp2_with (first | ((with_reducible refine gate_dst (N := 7) rfl ?_); refine box_event ?hg (N := 7) ?hd (cs := #[.int .i64 0, .int .i64 0, .int .i64 0, .int .i64 0]) (t := 25) ?hr ?_; (case hd => rfl); (case hg => rfl); (case hr => first | (go_simp; done) | (go_simp; rfl)); intro gb hg w10 hbox hb; have BK := Aside0.mk hbox; have HBW := Aside0.mk hb; have HGB := Aside0.mk hg; clear hb hbox hg; have hcz12_0 : w10.cell? ⟨gb, 0, none⟩ = some (.int .i64 0) := (blk_cell BK.out 0).trans rfl; have hcz12_1 : w10.cell? ⟨gb, 1, none⟩ = some (.int .i64 0) := (blk_cell BK.out 1).trans rfl; have hcz12_2 : w10.cell? ⟨gb, 2, none⟩ = some (.int .i64 0) := (blk_cell BK.out 2).trans rfl; have hcz12_3 : w10.cell? ⟨gb, 3, none⟩ = some (.int .i64 0) := (blk_cell BK.out 3).trans rfl; have hfz12_0 := blk_frozen BK.out 0; have hfz12_1 := blk_frozen BK.out 1; have hfz12_2 := blk_frozen BK.out 2; have hfz12_3 := blk_frozen BK.out 3))
      refine wp_name (fun W1 hW1 => ?_)
      have hblk : W1.heap[gb]? = some (.cells #[.int .i64 (rd_T25 l0 x13).f0, .int .i64 (rd_T25 l0 x13).f1, .int .i64 (rd_T25 l0 x13).f2, .int .i64 (rd_T25 l0 x13).f3] 25 (0, 0)) := by
        rw [hW1]
        simpa using blk_set (blk_set (blk_set (blk_set BK.out 0 (.int .i64 (rd_T25 l0 x13).f0)) 1 (.int .i64 (rd_T25 l0 x13).f1)) 2 (.int .i64 (rd_T25 l0 x13).f2)) 3 (.int .i64 (rd_T25 l0 x13).f3)
      have hbw : Below wr.heap.size wr W1 := by
        rw [hW1]
        have hge : wr.heap.size ≤ gb := Nat.le_of_eq HGB.out.symm
        repeat (first | exact HBW.out | refine below_set ?_ hge)
      clear hW1 hcz12_0 hcz12_1 hcz12_2 hcz12_3 hfz12_0 hfz12_1 hfz12_2 hfz12_3 hx104_0 hx104_1 hx104_2 hx104_3
      clear BK HBW HGB
      have HT1 := HT.out.below hbw
      clear HT
      obtain ⟨⟨n, M, h1, h2, h2', h3, h4, h5⟩, h6, h7⟩ := HT1
      have hgetD : (l0.map (·.f2)).getD x13.toNat 0 = (rd_T25 l0 x13).f2 := by
        have : x13.toNat < l0.length := by have := c3b1.out; omega
        simp [rd_T25, List.getD_eq_getElem?_getD, this]
      have hlwf : (Lit.int .i64 (rd_T25 l0 x13).f2).wf = true := by
        have hlt : x13.toNat < l0.length := by have := c3b1.out; omega
        have : rd_T25 l0 x13 = l0[x13.toNat] := by simp [rd_T25, List.getD_eq_getElem?_getD, hlt]
        rw [this]
        exact HWF.out _ (List.getElem_mem hlt)
      have HG := Aside0.mk hgetD
      have HLW := Aside0.mk hlwf
      clear hgetD hlwf
      have hcell2 : W1.cell? ⟨gb, 2, none⟩ = some (.int .i64 (rd_T25 l0 x13).f2) := (blk_cell hblk 2).trans rfl
      obtain ⟨v, hv⟩ : ∃ v, v = (M (rd_T25 l0 x13).f2).getD (.slice none 0 0) := ⟨_, rfl⟩
      have hlk : ∀ W, VMap encI Try.prog 3 W w.heap.size n M → (Instr.lookup 53 (.map (some w.heap.size)) (.int .i64 (rd_T25 l0 x13).f2) false).run Try.prog W = .ok v W := fun W h => by
        rw [hv]
        exact h.look encI_inj (int_keyed Try.underlying3) Try.underlying53 (zero23 W) _ (keyOf_int_mk Try.underlying3 HLW.out)
      have hput : ∀ W v1, VMap encI Try.prog 3 W w.heap.size n M → ∃ w2, (Instr.mapUpdate 53 (.map (some w.heap.size)) (.int .i64 (rd_T25 l0 x13).f2) v1).run Try.prog W = .ok () w2 ∧ VMap encI Try.prog 3 w2 w.heap.size (if (M (rd_T25 l0 x13).f2).isSome then n else n + 1) (fun x => if x = (rd_T25 l0 x13).f2 then some v1 else M x) ∧ W.grownBy w2 (some w.heap.size) := fun W v1 h =>
        h.put encI_inj (int_keyed Try.underlying3) Try.underlying53 (z := .slice none 0 0) zero23 (fun y hy => ⟨_, keyOf_int_mk Try.underlying3 (h2' y hy)⟩) _ (keyOf_int_mk Try.underlying3 HLW.out) v1 (by have := HK.out; have := HL0.out; unfold maxLen; omega)
      have HOv := Aside0.mk (h3 (rd_T25 l0 x13).f2)
      rw [← hv] at HOv
      have hlen : (idx ((l0.map (·.f2)).take x13.toNat) (rd_T25 l0 x13).f2).length ≤ x13.toNat := by
        have := idx_len ((l0.map (·.f2)).take x13.toNat) (rd_T25 l0 x13).f2
        simp at this
        omega
      have HLn := Aside0.mk (show ((idx ((l0.map (·.f2)).take x13.toNat) (rd_T25 l0 x13).f2).length + 1) * 8 ≤ 140737488355328 by have := HK.out; have := HL0.out; omega)
      obtain ⟨m, hm⟩ : ∃ m, m = (idx ((l0.map (·.f2)).take x13.toNat) (rd_T25 l0 x13).f2).length := ⟨_, rfl⟩
      rw [← hm] at HOv HLn hlen
      have HM := Aside0.mk hm
      have HV := Aside0.mk h2
      have HneB := Aside0.mk (ne_map h2 HOv.out)
      have HBW1 := Aside0.mk h7
      have hcellg : ∀ w1 : World, W1.grownBy w1 v.ownBlock → w1.cell? ⟨gb, 2, none⟩ = some (.int .i64 (rd_T25 l0 x13).f2) := fun w1 hg1 => by
        have hlt : gb < W1.heap.size := (Array.getElem?_eq_some_iff.1 hblk).1
        refine (blk_cell ((hg1.block gb hlt (fun e => ?_)).trans hblk) 2).trans rfl
        obtain ⟨cs, hc⟩ := own_typed HOv.out gb e.symm
        rw [hblk] at hc
        exact absurd hc (by simp)
      have HP := Aside0.mk (And.intro h1 (And.intro h2' (And.intro h3 (And.intro h4 (And.intro h5 h6)))))
      have HV0 := Aside0.mk hv
      clear h1 h2 h2' h3 h4 h5 h6 h7 hm hbw hv
      have HHB := Aside0.mk hblk
      clear hblk
      have HLE := Aside0.mk hlen
      clear hlen
      refine start_ (n := 11) (S := fun w' => w'.cell? ⟨gb, 2, none⟩ = some (.int .i64 (rd_T25 l0 x13).f2) ∧ (Instr.lookup 53 (.map (some w.heap.size)) (.int .i64 (rd_T25 l0 x13).f2) false).run Try.prog w' = .ok v w') (ds := [10]) #[false, false, false, false, false, false, false, false, false, false, false] (by kernel_rfl) rfl rfl ⟨hcell2, hlk _ HV.out⟩ (fun hHeld => ?_)
      refine pure_ (i := 0) (N := some 18) (v := ?_) (a' := ?_) #[true, false, false, false, false, false, false, false, false, false, false] rfl rfl (by kernel_rfl) (fun _ _ _ h => h) (Or.inl ⟨by rfl, ?_⟩) ?_ ?_
      rotate_left
      · intro w'
        go_simp
        with_reducible rfl
      rotate_left
      · simp only [Act.put, List.setIfInBounds_toArray, List.set_cons_zero, List.set_cons_succ, i64_w, i32_w]
        try rfl
      refine pure_ (i := 1) (N := some 19) (v := ?_) (a' := ?_) #[true, true, false, false, false, false, false, false, false, false, false] rfl rfl (by kernel_rfl) (fun _ _ _ h => h) (Or.inl ⟨by rfl, ?_⟩) ?_ ?_
      rotate_left
      · intro w'
        go_simp
        with_reducible rfl
      rotate_left
      · simp only [Act.put, List.setIfInBounds_toArray, List.set_cons_zero, List.set_cons_succ, i64_w, i32_w]
        try rfl
      refine pure_ (i := 3) (N := some 21) (v := ?_) (a' := ?_) #[true, true, false, true, false, false, false, false, false, false, false] rfl rfl (by kernel_rfl) (fun _ _ _ h => h) (Or.inl ⟨by rfl, ?_⟩) ?_ ?_
      rotate_left
      · intro w'
        go_simp
        with_reducible rfl
      rotate_left
      · simp only [Act.put, List.setIfInBounds_toArray, List.set_cons_zero, List.set_cons_succ, i64_w, i32_w]
        try rfl
      refine pure_ (i := 4) (N := some 22) (v := ?_) (a' := ?_) #[true, true, false, true, true, false, false, false, false, false, false] rfl rfl (by kernel_rfl) (fun _ _ _ h => h) (Or.inl ⟨by rfl, ?_⟩) ?_ ?_
      rotate_left
      · intro w'
        go_simp
        with_reducible rfl
      rotate_left
      · simp only [Act.put, List.setIfInBounds_toArray, List.set_cons_zero, List.set_cons_succ, i64_w, i32_w]
        try rfl
      refine pure_ (i := 7) (N := some 25) (v := ?_) (a' := ?_) #[true, true, false, true, true, false, false, true, false, false, false] rfl rfl (by kernel_rfl) (fun _ _ _ h => h) (Or.inl ⟨by rfl, ?_⟩) ?_ ?_
      rotate_left
      · intro w'
        go_simp
        with_reducible rfl
      rotate_left
      · simp only [Act.put, List.setIfInBounds_toArray, List.set_cons_zero, List.set_cons_succ, i64_w, i32_w]
        try rfl
      refine take_ (i := 2) (N := some 20) (v := ?_) (a' := ?_) #[true, true, true, true, true, false, false, true, false, false, false] rfl rfl (by kernel_rfl) (fun _ _ _ h => h) (Or.inl ⟨by rfl, ?_⟩) hHeld ?_ ?_
      rotate_left
      · rintro w' ⟨s0, s1⟩
        go_simp
        with_reducible rfl
      rotate_left
      · simp only [Act.put, List.setIfInBounds_toArray, List.set_cons_zero, List.set_cons_succ, i64_w, i32_w]
        try rfl
      refine take_ (i := 5) (N := some 23) (v := ?_) (a' := ?_) #[true, true, true, true, true, true, false, true, false, false, false] rfl rfl (by kernel_rfl) (fun _ _ _ h => h) (Or.inl ⟨by rfl, ?_⟩) hHeld ?_ ?_
      rotate_left
      · rintro w' ⟨s0, s1⟩
        go_simp
        with_reducible rfl
      rotate_left
      · simp only [Act.put, List.setIfInBounds_toArray, List.set_cons_zero, List.set_cons_succ, i64_w, i32_w]
        try rfl
      refine take_ (i := 6) (N := some 24) (v := ?_) (a' := ?_) #[true, true, true, true, true, true, true, true, false, false, false] rfl rfl (by kernel_rfl) (fun _ _ _ h => h) (Or.inl ⟨by rfl, ?_⟩) hHeld ?_ ?_
      rotate_left
      · rintro w' ⟨s0, s1⟩
        go_simp
        with_reducible rfl
      rotate_left
      · simp only [Act.put, List.setIfInBounds_toArray, List.set_cons_zero, List.set_cons_succ, i64_w, i32_w]
        try rfl
      refine one_ (i := 8) (N := some 26) #[true, true, true, true, true, true, true, true, true, false, false] rfl rfl (by kernel_rfl) (by decide) (fun K hK => ?_)
      refine value_ (w1 := ?_) (v := ?_) (by rfl) rfl ?_ ?_
      rotate_left 2
      · go_simp
        constructor
        · rfl
        · rfl
      refine hK.out _ _ ⟨(World.cell?_alloc_lt _ _ _ (World.block_lt_of_cell? _ _ hHeld.1)).trans hHeld.1, hlk _ (HV.out.below (by repeat (first | exact Below.refl _ _ | apply below_alloc | apply below_drew)))⟩ (fun hHeld => ?_)
      clear hK K
      refine norm_ (a' := ?_) ?_ ?_
      rotate_left
      · show Act.put _ (some 26) _ = _
        simp only [Act.put, List.setIfInBounds_toArray, List.set_cons_zero, List.set_cons_succ, i64_w, i32_w]
        try rfl
      refine one_ (i := 9) (N := some 27) #[true, true, true, true, true, true, true, true, true, true, false] rfl rfl (by kernel_rfl) (by decide) (fun K hK => ?_)
      refine step_append_cells (w0 := w) (W := W1.drew) w.heap.size rfl (.tmp 24) (.tmp 26) 23 3 (.int .i64 0) 1 8 rfl Try.underlying23 info3 rfl (by decide) (by decide) v _ _ [.int .i64 x13] rfl rfl rfl (by intro u hu; rw [List.mem_singleton.1 hu]; rfl) HOv.out ?aB ?aS ?aL ?_
      (case aB => exact below_drew HBW1.out)
      (case aS => exact HBW1.out.size)
      (case aL => exact HLn.out)
      intro v1 w1 ho1 hb1 hg1d hat1d
      have hg1 : W1.grownBy w1 v.ownBlock := ⟨hg1d.os, hg1d.tape, hg1d.output, hg1d.size, hg1d.block⟩
      have hat1 : v1.ownBlock = v.ownBlock ∨ ∃ b, v1.ownBlock = some b ∧ W1.heap.size ≤ b := hat1d
      clear hg1d hat1d
      refine hK.out _ _ ⟨hcellg _ hg1, hlk _ (HV.out.grown hg1 HneB.out)⟩ (fun hHeld => ?_)
      clear hK K
      refine norm_ (a' := ?_) ?_ ?_
      rotate_left
      · show Act.put _ (some 27) _ = _
        simp only [Act.put, List.setIfInBounds_toArray, List.set_cons_zero, List.set_cons_succ, i64_w, i32_w]
        try rfl
      refine last_ (i := 10) (N := none) #[true, true, true, true, true, true, true, true, true, true, true] rfl rfl (by kernel_rfl) (by decide) (fun K hK => ?_)
      obtain ⟨w2, hrun2, hV2, hg2⟩ := hput w1 v1 (HV.out.grown hg1 HneB.out)
      refine skip_ (w1 := w2) (by rfl) rfl ?_ ?_
      · go_simp
      clear hHeld
      refine hK.out _ _ ?_
      clear hK K
      refine done_ (by kernel_rfl) ?_
      have HT2 : TRel w w2 (l0.map (·.f2)) (x13.toNat + 1) x13.toNat u5 := by
        have hx : ((x13.toNat : Nat) : Int) = x13 := by omega
        refine TRel.put (v1 := v1) (lev := (rd_T25 l0 x13).f2) (by have := c3b1.out; simp; omega) HG.out HLW.out HP.out.1 HV.out HP.out.2.1 HP.out.2.2.1 HP.out.2.2.2.1 HP.out.2.2.2.2.1 HP.out.2.2.2.2.2 HBW1.out ?_ ?_ ?_ hb1 hV2 hg2 (HV.out.grown hg1 HneB.out)
        · rw [← HV0.out]; exact hg1
        · rw [← HM.out, hx]; exact ho1
        · rw [← HV0.out]; exact hat1
      have hcell2' : w2.cell? ⟨gb, 2, none⟩ = some (.int .i64 (rd_T25 l0 x13).f2) := by
        have h1 := hcellg w1 hg1
        have hgB : gb ≠ w.heap.size := HV.out.ne HHB.out
        have hlt := World.block_lt_of_cell? w1 _ h1
        have := hg2.block gb hlt (fun e => hgB (by injection e))
        simpa [World.cell?, this] using h1
      have hlk2 : (Instr.lookup 53 (.map (some w.heap.size)) (.int .i64 (rd_T25 l0 x13).f2) false).run Try.prog w2 = .ok v1 w2 := by
        have := hV2.look encI_inj (int_keyed Try.underlying3) Try.underlying53 (zero23 w2) (rd_T25 l0 x13).f2 (keyOf_int_mk Try.underlying3 HLW.out)
        simpa using this
      have hcntE : (idx ((l0.map (·.f2)).take (x13.toNat + 1)) (rd_T25 l0 x13).f2).length = m + 1 := by
        rw [idx_step _ _ (by have := c3b1.out; simp; omega), HG.out, if_pos rfl, List.length_append, HM.out]
        rfl
      have HCN := Aside0.mk hcntE
      clear hcntE
      have HT2 := Aside0.mk HT2
      have HO1 := Aside0.mk ho1
      clear hlk hput hcellg hcell2 ho1 hb1 hg1 hat1 hrun2 hV2 hg2 HV HneB HP HV0 HOv HBW1
      obtain ⟨A1, c1, e1⟩ := own_slice HO1.out
      rw [e1] at hlk2
      have bm : m ≤ 1000 := by have := HK.out; have := HL0.out; have := HLE.out; omega
      by_cases c4 : m = 3
      · have c4b0 : ((((m + 1 : Nat) : Int)) == 4) = true := by subst c4; rfl
        have c4b1 : (((m : Int) + 1) == 4) = true := by subst c4; rfl
        have HC4 := Aside0.mk c4
        clear c4
        obtain ⟨A5, c5, e5⟩ := own_slice HT2.out.lv
        have HLO := Aside0.mk (show ((over (l0.map (·.f2)) x13.toNat).length + 1) * 8 ≤ 140737488355328 by have := over_len (l0.map (·.f2)) x13.toNat; have := HK.out; have := HL0.out; omega)
        go_wp2_with (first | ((with_reducible refine gate_builtin (b := .append) (xs := #[.tmp 34, .tmp 37]) rfl ?_); at_builtin; refine print_append_cells (w0 := w) w.heap.size rfl (.tmp 34) (.tmp 37) 23 3 (.int .i64 0) 1 8 rfl Try.underlying23 info3 rfl (by decide) (by decide) u5 _ _ [.int .i64 (rd_T25 l0 x13).f2] rfl rfl rfl (by intro u hu; rw [List.mem_singleton.1 hu]; rfl) HT2.out.lv ?aB ?aS ?aL ?_; (case aB => exact HT2.out.bel); (case aS => exact HT2.out.bel.size); (case aL => exact HLO.out); intro v' w3 ho3 hb3 hg3 hat3))
        have hb13 : IntKind.i64.wrap (x13 + 1) = x13 + 1 := by rw [i64_w]; unfold wrap64; omega
        go_roundw
        case rel =>
          have hx : (x13 + 1).toNat = x13.toNat + 1 := by omega
          refine ⟨x13 + 1, rfl, ⟨by have := c3b1.out; omega⟩, ⟨?_⟩⟩
          rw [hx]
          exact HT2.out.more HG.out (by rw [HCN.out, HC4.out]) hg3 ho3 hat3 hb3
        case measure => simp [intOf]; have := c3b1.out; omega
      · have c4b0 : ((((m + 1 : Nat) : Int)) == 4) = false := by rw [beq_eq_false_iff_ne]; omega
        have c4b1 : (((m : Int) + 1) == 4) = false := by rw [beq_eq_false_iff_ne]; omega
        have HC4 := Aside0.mk c4
        clear c4
        go_wp2
        go_roundw
        case rel =>
          have hx : (x13 + 1).toNat = x13.toNat + 1 := by omega
          refine ⟨x13 + 1, rfl, ⟨by have := c3b1.out; omega⟩, ⟨?_⟩⟩
          rw [hx]
          exact HT2.out.stay (by rw [HG.out, HCN.out]; have := HC4.out; omega)
        case measure => simp [intOf]; have := c3b1.out; omega
    · have c3b0 : decide (x13 < (l0.length : Int)) = false := decide_eq_false c3
      have hx : x13.toNat = (l0.map (·.f2)).length := by have := HK.out; simp; omega
      rw [hx] at HT
      have hT := HT.out
      clear HT c3 hx HK
      obtain ⟨⟨n, M, h1, h2, h2', h3, h4, h5⟩, h6, h7⟩ := hT
      rw [List.take_length] at h3
      have HBw := Aside0.mk h7
      by_cases c5 : over (l0.map (·.f2)) (l0.map (·.f2)).length = []
      · have HP := Aside0.mk (show planS (l0.map (·.f2)) = ([], 0) from if_pos c5)
        obtain ⟨A5, c5', e5⟩ := own_slice h6
        rw [c5] at e5
        simp only [List.length_nil] at e5
        subst e5
        clear h1 h2 h2' h3 h4 h5 h6 h7 c5
        go_wp2
        go_ret2
        exact ⟨_, by rw [HP.out]; rfl, by rw [HP.out]; exact Kd.R_nil _ _ _ _ _, HBw.out⟩
      · obtain ⟨zs, hzs⟩ : ∃ zs, zs = over (l0.map (·.f2)) (l0.map (·.f2)).length := ⟨_, rfl⟩
        have hP : planS (l0.map (·.f2)) = ((idx (l0.map (·.f2)) (Lib.minOf zs)).take 3, if Lib.minOf zs < 16 then Lib.minOf zs + 1 else 16) := by
          rw [hzs]
          exact if_neg c5
        rw [← hzs] at h6 c5
        have hpos : 0 < zs.length := List.length_pos_iff.2 c5
        obtain ⟨g5, cap5, e5, _, _⟩ := h6.form hpos
        have hcells : ∀ j, j < zs.length → wr.cell? ⟨g5, 0 + j, none⟩ = some (.int .i64 (zs.getD j 0)) := fun j hj => by
          have hc := h6.cells (g := g5) (by rw [e5]; rfl) j (.int .i64 (zs.getD j 0)) (by simp [nums, List.getElem?_eq_getElem hj, List.getD_eq_getElem?_getD])
          have ha : (⟨g5, 0, none⟩ : Addr).add j = ⟨g5, 0 + j, none⟩ := by unfold Addr.add; split <;> simp_all
          rwa [ha] at hc
        have hbig : zs.length ≤ 9223372036854775807 := by
          rw [hzs]
          refine Nat.le_trans (over_len _ _) ?_
          rw [List.length_map]
          have := HL0.out
          omega
        have hmem : Lib.minOf zs ∈ over (l0.map (·.f2)) (l0.map (·.f2)).length := by rw [← hzs]; exact minOf_mem zs c5
        rw [mem_over _ _ _ (Nat.le_refl _), List.take_length] at hmem
        have hmw : (Lit.int .i64 (Lib.minOf zs)).wf = true := by
          have : Lib.minOf zs ∈ l0.map (·.f2) := idx_mem _ _ (by intro e; rw [e] at hmem; simp at hmem)
          obtain ⟨x, hx, he⟩ := List.mem_map.1 this
          rw [← he]
          exact HWF.out x hx
        obtain ⟨mn, hmn⟩ : ∃ mn, mn = Lib.minOf zs := ⟨_, rfl⟩
        rw [← hmn] at hP hmem hmw
        have hlk := h2.look encI_inj (int_keyed Try.underlying3) Try.underlying53 (zero23 wr) mn (keyOf_int_mk Try.underlying3 hmw)
        have hrow := h3 mn
        obtain ⟨g, cap, ev, _, _⟩ := hrow.form (by omega)
        rw [ev] at hlk hrow
        have hcap : (idx (l0.map (·.f2)) mn).length ≤ cap := by
          rcases hrow.2 with ⟨he, _⟩ | ⟨g', cap', cur, he, _, _, h8, _⟩
          · cases he
          · simp only [Value.slice.injEq] at he
            obtain ⟨_, _, rfl⟩ := he
            exact h8
        have hlen := idx_len (l0.map (·.f2)) mn
        rw [List.length_map] at hlen
        obtain ⟨m, hm⟩ : ∃ m, m = (idx (l0.map (·.f2)) mn).length := ⟨_, rfl⟩
        rw [← hm] at hlk hcap hmem hlen hrow
        have b3 : 3 ≤ cap := by omega
        have b4 : cap ≤ 9223372036854775807 := by
          rcases hrow.2 with ⟨he, _⟩ | ⟨g', cap', cur, he, _, _, h8, h9, _⟩
          · cases he
          · simp only [Value.slice.injEq] at he
            obtain ⟨_, _, rfl⟩ := he
            simpa [maxLen] using h9
        have bl : -9223372036854775808 ≤ mn := wf_lo hmw
        have HO := Aside0.mk hrow
        have HM := Aside0.mk hm
        have HP := Aside0.mk hP
        have HMN := Aside0.mk hmn
        have HHC := Aside0.mk hcells
        have HPS := Aside0.mk hpos
        have HBG := Aside0.mk hbig
        have t0 : (((zs.length : Nat) : Int) == 0) = false := by rw [beq_eq_false_iff_ne]; omega
        have HE5 := Aside0.mk e5
        have HHM := Aside0.mk hmem
        clear h1 h2 h2' h3 h4 h5 h6 h7 c5 hzs hrow hm hP hmn hcells hpos hbig e5 hmw ev hcap hlen hmem
        obtain rfl := HE5.out
        clear HE5
        by_cases c6 : mn < 16
        · have c6b : decide (mn < 16) = true := decide_eq_true c6
          have HC6 := Aside0.mk c6
          have bh : mn ≤ 16 := Int.le_of_lt c6
          clear c6
          go_wp2_with fail
          refine (Try.slices_Min_int g5 0 zs.length cap5 zs wr HPS.out (Nat.le_refl _) HBG.out HHC.out).mono ?_
          rintro e w' ⟨rfl, rfl⟩
          rw [List.take_length, ← HMN.out]
          go_wp2
          go_ret2
          exact ⟨_, by rw [HP.out, if_pos HC6.out]; rfl, by rw [HP.out]; exact Kd.R_take (R_of_nums (by rw [← HM.out]; exact HO.out)) (by rw [← HM.out]; have := HHM.out; omega), HBw.out⟩
        · have c6b : decide (mn < 16) = false := decide_eq_false c6
          have HC6 := Aside0.mk c6
          clear c6
          go_wp2_with fail
          refine (Try.slices_Min_int g5 0 zs.length cap5 zs wr HPS.out (Nat.le_refl _) HBG.out HHC.out).mono ?_
          rintro e w' ⟨rfl, rfl⟩
          rw [List.take_length, ← HMN.out]
          go_wp2
          go_ret2
          exact ⟨_, by rw [HP.out, if_neg (by have := HC6.out; omega)]; rfl, by rw [HP.out]; exact Kd.R_take (R_of_nums (by rw [← HM.out]; exact HO.out)) (by rw [← HM.out]; have := HHM.out; omega), HBw.out⟩
/-- tier.Plan, of lists that aren't too long. -/
def tier_Plan.f (l0 : List S25) : Option (List Int × Int) := if l0.length ≤ 1000 ∧ ∀ x ∈ l0, (Lit.int .i64 x.f2).wf = true then some (planS (l0.map (·.f2))) else none
theorem tier_Plan.calls (A0 : Option Addr) (c0 : Nat) (l0 : List S25) (r1 : List Int) (r2 : Int) (w : World) (hr0 : Kd.C k25 w A0 l0.length l0) (hc0 : l0.length ≤ c0) (h : tier_Plan.f l0 = some (r1, r2)) :
    Calls Try.prog 15 #[.slice A0 l0.length c0] w fun e w' => ∃ v0_ : Value, e = .returned (.tuple #[v0_, .int .i64 r2]) ∧ Kd.R (Kd.int .i64) 3 w' w.heap.size (fun _ => True) v0_ r1 ∧ Below w.heap.size w w' := by
  unfold tier_Plan.f at h
  split at h
  · rename_i hc
    have h := Option.some.inj h
    have e1 : r1 = (planS (l0.map (·.f2))).1 := by rw [h]
    have e2 : r2 = (planS (l0.map (·.f2))).2 := by rw [h]
    subst e1 e2
    exact tier_walk A0 c0 l0 w hr0 hc0 hc.1 hc.2
  · cases h
end

/-! ### slices_Index_int_int: function 35 -/
def slices_Index_int_int.l0 : Nat → List Int → Int → Int → Int → Option (Int)
  | 0, _, _, _, _ => none
  | k + 1, x0, x1, x7, x8 => if x8 < x7 then (if 0 ≤ x8 then (if x8 < (x0.length : Int) then (if x1 = (rd x0 x8) then (some x8) else (slices_Index_int_int.l0 k x0 x1 x7 (wrap64 (x8 + 1)))) else (none)) else (none)) else (some (-1))
def slices_Index_int_int.f (k : Nat) (l0 : List Int) (a1 : Int) : Option (Int) := slices_Index_int_int.l0 k l0 a1 (l0.length : Int) 0
theorem slices_Index_int_int.mono_l : ∀ k, (∀ y0 y1 y2 y3, LeO (slices_Index_int_int.l0 k y0 y1 y2 y3) (slices_Index_int_int.l0 (k + 1) y0 y1 y2 y3))
  | 0 => fun _ _ _ _ r h => by simp [slices_Index_int_int.l0] at h
  | k + 1 => by
    have ih0 := slices_Index_int_int.mono_l k
    · intro y0 y1 y2 y3
      unfold slices_Index_int_int.l0
      repeat' first
      | (with_reducible exact ih0 _ _ _ _)
      | (with_reducible exact LeO.refl _)
      | (with_reducible exact LeO.none _)
      | (with_reducible refine LeO.ite ?_ ?_)
      | (with_reducible refine LeO.bind ?_ (fun _ => ?_))
      | exact ih0 _ _ _ _
      | exact LeO.none _
      | refine LeO.ite ?_ ?_
      | refine LeO.bind ?_ (fun _ => ?_)
theorem slices_Index_int_int.mono : ∀ a0 a1 k, LeO (slices_Index_int_int.f k a0 a1) (slices_Index_int_int.f (k + 1) a0 a1) := by
  intro a0 a1 k
  have ih0 := slices_Index_int_int.mono_l k
  unfold slices_Index_int_int.f
  repeat' first
      | (with_reducible exact ih0 _ _ _ _)
      | (with_reducible exact LeO.refl _)
      | (with_reducible exact LeO.none _)
      | (with_reducible refine LeO.ite ?_ ?_)
      | (with_reducible refine LeO.bind ?_ (fun _ => ?_))
      | exact ih0 _ _ _ _
      | exact LeO.none _
      | refine LeO.ite ?_ ?_
      | refine LeO.bind ?_ (fun _ => ?_)
set_option maxHeartbeats 8000000 in
set_option maxRecDepth 100000 in
theorem slices_Index_int_int.calls (k : Nat) (A0 : Option Addr) (c0 : Nat) (l0 : List Int) (a1 : Int) (r : Int) (w : World) (hr0 : Kd.C (Kd.int .i64) w A0 l0.length l0) (hc0 : l0.length ≤ c0) (h : slices_Index_int_int.f k l0 a1 = some r) :
    Calls Try.prog 35 #[.slice A0 l0.length c0, .int .i64 a1] w fun e w' => e = .returned (.int .i64 r) ∧ Drawn0 w w' := by
  have HR0 := Aside0.mk hr0
  have HC0 := Aside0.mk hc0
  clear hr0 hc0
  have H : (slices_Index_int_int.l0 k l0 a1 (l0.length : Int) 0) = some r := h
  clear h
  have H' := Aside0.mk H
  clear H
  go_enter Try.func35, Try.ntmps35
  go_wp2
  go_loopg [8] k (fun kq v8 w' => ∃ (x8_1 : Int), v8 = .int .i64 x8_1 ∧ Aside0 (slices_Index_int_int.l0 kq l0 a1 (l0.length : Int) x8_1 = some r) ∧ Aside0 (kq ≤ k) ∧ Drawn0 w w')
  case atStart => exact ⟨(0), (by first | rfl | (simp; done) | (simp [*]; done)), H', ⟨Nat.le_refl _⟩, by repeat (first | exact Drawn0.refl _ | apply Drawn0.step)⟩
  case round =>
    clear H'
    try clear p2
    obtain ⟨x8_1, rfl, HA, HK1, ⟨m1, rfl⟩⟩ := hrel
    cases gk with
    | zero => exact absurd HA.out (by simp [slices_Index_int_int.l0])
    | succ k1 =>
      have H := HA.out
      clear HA
      simp only [slices_Index_int_int.l0] at H
      by_cases c3 : x8_1 < (l0.length : Int)
      · rw [if_pos c3] at H
        have c3b0 : decide (x8_1 < (l0.length : Int)) = true := decide_eq_true c3
        clear c3
        by_cases c4 : 0 ≤ x8_1
        · rw [if_pos c4] at H
          have c4b0 : decide (0 ≤ x8_1) = true := decide_eq_true c4
          clear c4
          by_cases c5 : x8_1 < (l0.length : Int)
          · rw [if_pos c5] at H
            have c5b0 : decide (x8_1 < (l0.length : Int)) = true := decide_eq_true c5
            clear c5
            by_cases c6 : a1 = (rd l0 x8_1)
            · rw [if_pos c6] at H
              have c6b0 : (a1 == (rd l0 x8_1)) = true := beq_iff_eq.mpr c6
              have c6b1 : (a1 != (rd l0 x8_1)) = false := bne_eq_false_iff_eq.mpr c6
              clear c6
              obtain rfl := Option.some.inj H
              have p101 : 0 ≤ (x8_1 : Int) := of_decide_eq_true (by first | (with_reducible assumption) | assumption)
              have q101 : x8_1 < (l0.length : Int) := of_decide_eq_true (by first | (with_reducible assumption) | assumption)
              obtain ⟨ad101, e101, hx101_0⟩ := Kd.at_int HR0.out x8_1 p101 q101
              cases e101
              replace p101 := eq_true p101
              replace q101 := eq_true q101
              go_wp2
              go_ret
              exact ⟨by first | rfl | (simp; done) | (simp [*]; done), by repeat (first | exact Drawn0.refl _ | apply Drawn0.step)⟩
            · rw [if_neg c6] at H
              have c6b0 : (a1 == (rd l0 x8_1)) = false := beq_eq_false_iff_ne.mpr c6
              have c6b1 : (a1 != (rd l0 x8_1)) = true := bne_iff_ne.mpr c6
              have H' := Aside0.mk H
              clear H
              have p101 : 0 ≤ (x8_1 : Int) := of_decide_eq_true (by first | (with_reducible assumption) | assumption)
              have q101 : x8_1 < (l0.length : Int) := of_decide_eq_true (by first | (with_reducible assumption) | assumption)
              obtain ⟨ad101, e101, hx101_0⟩ := Kd.at_int HR0.out x8_1 p101 q101
              cases e101
              replace p101 := eq_true p101
              replace q101 := eq_true q101
              go_wp2
              go_roundg k1
              case measure => have := HK1.out; omega
              case rel => exact ⟨(wrap64 (x8_1 + 1)), (by first | rfl | (simp; done) | (simp [*]; done)), H', ⟨by have := HK1.out; omega⟩, by repeat (first | exact Drawn0.refl _ | apply Drawn0.step)⟩
          · rw [if_neg c5] at H
            exact absurd H (by simp)
        · rw [if_neg c4] at H
          exact absurd H (by simp)
      · rw [if_neg c3] at H
        have c3b0 : decide (x8_1 < (l0.length : Int)) = false := decide_eq_false c3
        clear c3
        obtain rfl := Option.some.inj H
        go_wp2
        go_ret
        exact ⟨by first | rfl | (simp; done) | (simp [*]; done), by repeat (first | exact Drawn0.refl _ | apply Drawn0.step)⟩

/-! ### slices_Contains_int_int: function 30 -/
def slices_Contains_int_int.f (k : Nat) (l0 : List Int) (a1 : Int) : Option (Bool) := (slices_Index_int_int.f k l0 a1).bind fun t102 => (some (decide (t102 ≥ 0)))
theorem slices_Contains_int_int.mono : ∀ a0 a1 k, LeO (slices_Contains_int_int.f k a0 a1) (slices_Contains_int_int.f (k + 1) a0 a1) := by
  intro a0 a1 k
  unfold slices_Contains_int_int.f
  repeat' first
      | (with_reducible exact slices_Index_int_int.mono _ _ _)
      | (with_reducible exact LeO.refl _)
      | (with_reducible exact LeO.none _)
      | (with_reducible refine LeO.ite ?_ ?_)
      | (with_reducible refine LeO.bind ?_ (fun _ => ?_))
      | exact slices_Index_int_int.mono _ _ _
      | exact LeO.none _
      | refine LeO.ite ?_ ?_
      | refine LeO.bind ?_ (fun _ => ?_)
set_option maxHeartbeats 8000000 in
set_option maxRecDepth 100000 in
theorem slices_Contains_int_int.calls (k : Nat) (A0 : Option Addr) (c0 : Nat) (l0 : List Int) (a1 : Int) (r : Bool) (w : World) (hr0 : Kd.C (Kd.int .i64) w A0 l0.length l0) (hc0 : l0.length ≤ c0) (h : slices_Contains_int_int.f k l0 a1 = some r) :
    Calls Try.prog 30 #[.slice A0 l0.length c0, .int .i64 a1] w fun e w' => e = .returned (.bool r) ∧ Drawn0 w w' := by
  have HR0 := Aside0.mk hr0
  have HC0 := Aside0.mk hc0
  clear hr0 hc0
  have H : ((slices_Index_int_int.f k l0 a1).bind fun t102 => (some (decide (t102 ≥ 0)))) = some r := h
  clear h
  replace H := Option.bind_eq_some_iff.mp H
  obtain ⟨t102, A30, H⟩ := H
  replace H : (some (decide (t102 ≥ 0))) = some r := H
  have A3 := Aside0.mk A30
  clear A30
  obtain rfl := Option.some.inj H
  go_enter Try.func30, Try.ntmps30
  go_wp2_with (first | ((with_reducible refine gate_callee (f := 35) rfl ?_); refine goesL_ (some 7) rfl rfl Try.func35 (by kernel_rfl) rfl #[.slice A0 l0.length c0, .int .i64 a1] rfl (by (try simp only [List.map_toArray, List.map_cons, List.map_nil]); first | done | rfl | (simp only [List.length_drop, List.length_take]; rfl)) ?_; (with_reducible refine (slices_Index_int_int.calls k _ _ l0 a1 t102 _ ?side1 ?side2 A3.out).mono ?_); (case side1 => repeat (first | exact HR0.out | (with_reducible refine Kd.C_alloc ?_ _) | (with_reducible refine Kd.C_drewN ?_ _) | (with_reducible refine Kd.C_drew ?_))); (case side2 => exact HC0.out); rintro e w' ⟨rfl, ⟨nd, rfl⟩⟩; refine ⟨_, rfl, ?_⟩))
  go_ret
  exact ⟨by first | rfl | (simp; done) | (simp [*]; done), by repeat (first | exact Drawn0.refl _ | apply Drawn0.step)⟩

/-! ### tier_Done: function 19 -/
def tier_Done.l0 : Nat → List Int → List (S25) → List (S25) → Int → Int → Int → Int → Int → Int → Option ((List (S25)))
  | 0, _, _, _, _, _, _, _, _, _ => none
  | k + 1, x1, x7, x10, x11, x12, x104000, x104001, x104002, x104003 => if x12 < x11 then (if 0 ≤ x12 then (if x12 < (x10.length : Int) then ((slices_Contains_int_int.f k x1 x12).bind fun t106 => (if t106 = true then (tier_Done.l0 k x1 x7 x10 x11 (wrap64 (x12 + 1)) x104000 x104001 x104002 x104003) else (if x7.length < 4398046511104 then (tier_Done.l0 k x1 (x7 ++ [(⟨(rd_T25 x10 x12).f0, (rd_T25 x10 x12).f1, (rd_T25 x10 x12).f2, (rd_T25 x10 x12).f3⟩ : S25)]) x10 x11 (wrap64 (x12 + 1)) x104000 x104001 x104002 x104003) else (none)))) else (none)) else (none)) else (if x7.length < 4398046511104 then (some (x7 ++ [(⟨x104000, x104001, x104002, x104003⟩ : S25)])) else (none))
def tier_Done.f (k : Nat) (l0 : List (S25)) (l1 : List Int) (a2_0 : Int) (a2_1 : Int) (a2_2 : Int) (a2_3 : Int) : Option ((List (S25))) := tier_Done.l0 k l1 ([] : List (S25)) l0 (l0.length : Int) 0 a2_0 a2_1 a2_2 a2_3
theorem tier_Done.mono_l : ∀ k, (∀ y0 y1 y2 y3 y4 y5 y6 y7 y8, LeO (tier_Done.l0 k y0 y1 y2 y3 y4 y5 y6 y7 y8) (tier_Done.l0 (k + 1) y0 y1 y2 y3 y4 y5 y6 y7 y8))
  | 0 => fun _ _ _ _ _ _ _ _ _ r h => by simp [tier_Done.l0] at h
  | k + 1 => by
    have ih0 := tier_Done.mono_l k
    · intro y0 y1 y2 y3 y4 y5 y6 y7 y8
      unfold tier_Done.l0
      repeat' first
      | (with_reducible exact ih0 _ _ _ _ _ _ _ _ _)
      | (with_reducible exact slices_Contains_int_int.mono _ _ _)
      | (with_reducible exact LeO.refl _)
      | (with_reducible exact LeO.none _)
      | (with_reducible refine LeO.ite ?_ ?_)
      | (with_reducible refine LeO.bind ?_ (fun _ => ?_))
      | exact ih0 _ _ _ _ _ _ _ _ _
      | exact slices_Contains_int_int.mono _ _ _
      | exact LeO.none _
      | refine LeO.ite ?_ ?_
      | refine LeO.bind ?_ (fun _ => ?_)
theorem tier_Done.mono : ∀ a0 a1 a2 a3 a4 a5 k, LeO (tier_Done.f k a0 a1 a2 a3 a4 a5) (tier_Done.f (k + 1) a0 a1 a2 a3 a4 a5) := by
  intro a0 a1 a2 a3 a4 a5 k
  have ih0 := tier_Done.mono_l k
  unfold tier_Done.f
  repeat' first
      | (with_reducible exact ih0 _ _ _ _ _ _ _ _ _)
      | (with_reducible exact slices_Contains_int_int.mono _ _ _)
      | (with_reducible exact LeO.refl _)
      | (with_reducible exact LeO.none _)
      | (with_reducible refine LeO.ite ?_ ?_)
      | (with_reducible refine LeO.bind ?_ (fun _ => ?_))
      | exact ih0 _ _ _ _ _ _ _ _ _
      | exact slices_Contains_int_int.mono _ _ _
      | exact LeO.none _
      | refine LeO.ite ?_ ?_
      | refine LeO.bind ?_ (fun _ => ?_)
set_option maxHeartbeats 8000000 in
set_option maxRecDepth 100000 in
theorem tier_Done.calls (k : Nat) (A0 : Option Addr) (c0 : Nat) (l0 : List (S25)) (A1 : Option Addr) (c1 : Nat) (l1 : List Int) (a2_0 : Int) (a2_1 : Int) (a2_2 : Int) (a2_3 : Int) (r : List (S25)) (w : World) (hr0 : Kd.C k25 w A0 l0.length l0) (hc0 : l0.length ≤ c0) (hr1 : Kd.C (Kd.int .i64) w A1 l1.length l1) (hc1 : l1.length ≤ c1) (h : tier_Done.f k l0 l1 a2_0 a2_1 a2_2 a2_3 = some r) :
    Calls Try.prog 19 #[.slice A0 l0.length c0, .slice A1 l1.length c1, .agg #[.int .i64 a2_0, .int .i64 a2_1, .int .i64 a2_2, .int .i64 a2_3]] w fun e w' => ∃ v0_ : Value, e = .returned (v0_) ∧ Kd.R k25 25 w' w.heap.size (fun _ => True) v0_ r ∧ Below w.heap.size w w' := by
  have hu25 := Try.underlying25
  have HR0 := Aside0.mk hr0
  have HC0 := Aside0.mk hc0
  clear hr0 hc0
  have HR1 := Aside0.mk hr1
  have HC1 := Aside0.mk hc1
  clear hr1 hc1
  have HB := Aside0.mk (Below.refl w.heap.size w)
  have H : (tier_Done.l0 k l1 ([] : List (S25)) l0 (l0.length : Int) 0 a2_0 a2_1 a2_2 a2_3) = some r := h
  clear h
  have H' := Aside0.mk H
  clear H
  go_enter Try.func19, Try.ntmps19
  go_wp2_with (first | ((with_reducible refine gate_dst (N := 5) rfl ?_); refine box_event ?hg (N := 5) ?hd (cs := #[.int .i64 a2_0, .int .i64 a2_1, .int .i64 a2_2, .int .i64 a2_3]) (t := 25) ?hr ?_; (case hd => rfl); (case hg => rfl); (case hr => first | (go_simp; done) | (go_simp; rfl)); intro gb103 hg w4 hbox hb; have n0_ := Aside0.mk (below_step (by repeat (first | (with_reducible first | exact HB.out | apply below_alloc | apply pw_below_drewN | apply below_drew1) | exact HB.out)) hb); have n1_ := Aside0.mk (hbox); have n2_ := Aside0.mk ((by rw [hg]; exact (below_size (by repeat (first | (with_reducible first | exact HB.out | apply below_alloc | apply pw_below_drewN | apply below_drew1) | exact HB.out))) : w.heap.size ≤ gb103)); have n3_ := Aside0.mk ((by rw [hg]; exact (below_size (by repeat (first | (with_reducible first | exact HB.out | apply below_alloc | apply pw_below_drewN | apply below_drew1) | exact HB.out))) : w.heap.size ≤ gb103)); clear HB; have HB := n0_; have BK103 := n1_; have GW103 := n2_; have GE103 := n3_; clear n0_ n1_ n2_ n3_; clear hb hbox hg))
  go_loopg [7, 12] k (fun kq v7 v12 w' => ∃ (x7_1 : List (S25)) (x12_1 : Int), v12 = .int .i64 x12_1 ∧ Aside0 (tier_Done.l0 kq l1 x7_1 l0 (l0.length : Int) x12_1 a2_0 a2_1 a2_2 a2_3 = some r) ∧ Aside0 (kq ≤ k) ∧ Aside0 (Kd.R k25 25 w' w.heap.size (fun k_ => k_ ≠ gb103) v7 x7_1) ∧ Aside0 (w'.heap[gb103]? = some (.cells #[.int .i64 a2_0, .int .i64 a2_1, .int .i64 a2_2, .int .i64 a2_3] 25 (0, 0))) ∧ Aside0 (Below w.heap.size w w'))
  case atStart => exact ⟨(([] : List (S25))), (0), (by first | rfl | (simp; done) | (simp [*]; done)), H', ⟨Nat.le_refl _⟩, ⟨by first | exact Kd.R_nil _ _ _ _ _ | exact Kd.N_nil _ _ _ _ _ | exact Kd.V_nil _ _ _ _ _ | exact Kd.Q_nil _ _ _ _ _ | exact Kd.S_nil _ _ _ _ _⟩, ⟨by (with_reducible repeat (first | refine blk_drewN ?_ _ | refine blk_drew ?_ | refine blk_alloc ?_ _)); exact BK103.out⟩, ⟨by repeat (first | (with_reducible first | exact HB.out | apply below_alloc | apply pw_below_drewN | apply below_drew1 | refine below_set ?_ GE103.out) | exact HB.out)⟩⟩
  case round =>
    clear H'
    try clear c1
    try clear p2
    obtain ⟨x7_1, x12_1, rfl, HA, HK1, HO_7, BK103, HB⟩ := hrel
    cases gk with
    | zero => exact absurd HA.out (by simp [tier_Done.l0])
    | succ k1 =>
      have H := HA.out
      clear HA
      simp only [tier_Done.l0] at H
      by_cases c5 : x12_1 < (l0.length : Int)
      · rw [if_pos c5] at H
        have c5b0 : decide (x12_1 < (l0.length : Int)) = true := decide_eq_true c5
        clear c5
        by_cases c6 : 0 ≤ x12_1
        · rw [if_pos c6] at H
          have c6b0 : decide (0 ≤ x12_1) = true := decide_eq_true c6
          clear c6
          by_cases c7 : x12_1 < (l0.length : Int)
          · rw [if_pos c7] at H
            have c7b0 : decide (x12_1 < (l0.length : Int)) = true := decide_eq_true c7
            clear c7
            replace H := Option.bind_eq_some_iff.mp H
            obtain ⟨t106, A80, H⟩ := H
            replace H : (if t106 = true then (tier_Done.l0 k1 l1 x7_1 l0 (l0.length : Int) (wrap64 (x12_1 + 1)) a2_0 a2_1 a2_2 a2_3) else (if x7_1.length < 4398046511104 then (tier_Done.l0 k1 l1 (x7_1 ++ [(⟨(rd_T25 l0 x12_1).f0, (rd_T25 l0 x12_1).f1, (rd_T25 l0 x12_1).f2, (rd_T25 l0 x12_1).f3⟩ : S25)]) l0 (l0.length : Int) (wrap64 (x12_1 + 1)) a2_0 a2_1 a2_2 a2_3) else (none))) = some r := H
            have A8 := Aside0.mk A80
            clear A80
            by_cases c9 : t106 = true
            · subst c9
              have H1 : (tier_Done.l0 k1 l1 x7_1 l0 (l0.length : Int) (wrap64 (x12_1 + 1)) a2_0 a2_1 a2_2 a2_3) = some r := by rw [if_pos rfl] at H; exact H
              clear H
              have H := H1
              clear H1
              have H' := Aside0.mk H
              clear H
              have p104 : 0 ≤ (x12_1 : Int) := of_decide_eq_true (by first | (with_reducible assumption) | assumption)
              have q104 : x12_1 < (l0.length : Int) := of_decide_eq_true (by first | (with_reducible assumption) | assumption)
              obtain ⟨ad104, e104, hx104_0, hx104_1, hx104_2, hx104_3⟩ := at_T25 HR0.out x12_1 p104 q104
              cases e104
              replace hx104_0 := (HB.out.cell (World.block_lt_of_cell? w _ hx104_0)).trans hx104_0
              replace hx104_1 := (HB.out.cell (World.block_lt_of_cell? w _ hx104_1)).trans hx104_1
              replace hx104_2 := (HB.out.cell (World.block_lt_of_cell? w _ hx104_2)).trans hx104_2
              replace hx104_3 := (HB.out.cell (World.block_lt_of_cell? w _ hx104_3)).trans hx104_3
              replace p104 := eq_true p104
              replace q104 := eq_true q104
              go_wp2_with (first | ((with_reducible refine gate_dst (N := 9) rfl ?_); refine box_event ?hg (N := 9) ?hd (cs := #[.int .i64 0, .int .i64 0, .int .i64 0, .int .i64 0]) (t := 25) ?hr ?_; (case hd => rfl); (case hg => rfl); (case hr => first | (go_simp; done) | (go_simp; rfl)); intro gb105 hg w10 hbox hb; have n0_ := Aside0.mk (Kd.R_below (Kd.R_elderB (by (with_reducible repeat (first | apply Kd.R_alloc | apply Kd.R_drewN | apply Kd.R_drew)); exact HO_7.out) gb105 (Nat.le_of_eq hg.symm)) hb); have n1_ := Aside0.mk (blk_below (g := gb103) (o := .cells #[.int .i64 a2_0, .int .i64 a2_1, .int .i64 a2_2, .int .i64 a2_3] 25 (0, 0)) (by (with_reducible repeat (first | refine blk_drewN ?_ _ | refine blk_drew ?_ | refine blk_alloc ?_ _)); exact BK103.out) hb); have n2_ := Aside0.mk (below_step (by repeat (first | (with_reducible first | exact HB.out | apply below_alloc | apply pw_below_drewN | apply below_drew1 | refine below_set ?_ GE103.out) | exact HB.out)) hb); have n3_ := Aside0.mk (hbox); have n4_ := Aside0.mk ((by rw [hg]; exact (below_size (by repeat (first | (with_reducible first | exact HB.out | apply below_alloc | apply pw_below_drewN | apply below_drew1 | refine below_set ?_ GE103.out) | exact HB.out))) : w.heap.size ≤ gb105)); have n5_ := Aside0.mk ((by rw [hg]; exact (below_size (by repeat (first | (with_reducible first | exact HB.out | apply below_alloc | apply pw_below_drewN | apply below_drew1 | refine below_set ?_ GE103.out) | exact HB.out))) : w.heap.size ≤ gb105)); have n6_ := Aside0.mk ((by rw [hg]; exact Nat.ne_of_lt (blk_lt (g := gb103) (o := .cells #[.int .i64 a2_0, .int .i64 a2_1, .int .i64 a2_2, .int .i64 a2_3] 25 (0, 0)) (by (with_reducible repeat (first | refine blk_drewN ?_ _ | refine blk_drew ?_ | refine blk_alloc ?_ _)); exact BK103.out)) : gb103 ≠ gb105)); have n7_ := Aside0.mk ((by rw [hg]; exact Nat.ne_of_gt (blk_lt (g := gb103) (o := .cells #[.int .i64 a2_0, .int .i64 a2_1, .int .i64 a2_2, .int .i64 a2_3] 25 (0, 0)) (by (with_reducible repeat (first | refine blk_drewN ?_ _ | refine blk_drew ?_ | refine blk_alloc ?_ _)); exact BK103.out)) : gb105 ≠ gb103)); clear HO_7; clear BK103; clear HB; have HO_7 := n0_; have BK103 := n1_; have HB := n2_; have BK105 := n3_; have GW105 := n4_; have GE105 := n5_; have NB103_105 := n6_; have NB105_103 := n7_; clear n0_ n1_ n2_ n3_ n4_ n5_ n6_ n7_; clear hb hbox hg; have hnb11 := NB105_103.out; have hnc11 := NB103_105.out; have hcz12_0 : w10.cell? ⟨gb105, 0, none⟩ = some (.int .i64 0) := (blk_cell BK105.out 0).trans rfl; have hcz12_1 : w10.cell? ⟨gb105, 1, none⟩ = some (.int .i64 0) := (blk_cell BK105.out 1).trans rfl; have hcz12_2 : w10.cell? ⟨gb105, 2, none⟩ = some (.int .i64 0) := (blk_cell BK105.out 2).trans rfl; have hcz12_3 : w10.cell? ⟨gb105, 3, none⟩ = some (.int .i64 0) := (blk_cell BK105.out 3).trans rfl; have hfz12_0 := blk_frozen BK105.out 0; have hfz12_1 := blk_frozen BK105.out 1; have hfz12_2 := blk_frozen BK105.out 2; have hfz12_3 := blk_frozen BK105.out 3) | ((with_reducible refine gate_callee (f := 30) rfl ?_); refine goesL_ (some 19) rfl rfl Try.func30 (by kernel_rfl) rfl #[.slice A1 l1.length c1, .int .i64 x12_1] rfl (by (try simp only [List.map_toArray, List.map_cons, List.map_nil]); first | done | rfl | (simp only [List.length_drop, List.length_take]; rfl)) ?_; (with_reducible refine (slices_Contains_int_int.calls k1 _ _ l1 x12_1 true _ ?side1 ?side2 A8.out).mono ?_); (case side1 => exact Kd.C_below HR1.out (by repeat (first | (with_reducible first | exact HB.out | apply below_alloc | apply pw_below_drewN | apply below_drew1 | refine below_set ?_ GE103.out | refine below_set ?_ GE105.out) | exact HB.out))); (case side2 => exact HC1.out); rintro e w' ⟨rfl, ⟨nd, rfl⟩⟩; refine ⟨_, rfl, ?_⟩))
              go_roundg k1
              case measure => have := HK1.out; omega
              case rel => exact ⟨(x7_1), (wrap64 (x12_1 + 1)), (by first | rfl | (simp; done) | (simp [*]; done)), H', ⟨by have := HK1.out; omega⟩, ⟨by (with_reducible repeat (first | apply Kd.R_alloc | apply Kd.R_drewN | apply Kd.R_drew)); exact Kd.R_mono (Kd.R_far (p := ⟨gb105, 3, none⟩) (Kd.R_far (p := ⟨gb105, 2, none⟩) (Kd.R_far (p := ⟨gb105, 1, none⟩) (Kd.R_far (p := ⟨gb105, 0, none⟩) (Kd.R_mono HO_7.out (fun k_ hk => (⟨hk, hk.2⟩ : _ ∧ k_ ≠ gb105))) (fun _ hk => hk.2) (.int .i64 ((rd_T25 l0 x12_1).f0))) (fun _ hk => hk.2) (.int .i64 ((rd_T25 l0 x12_1).f1))) (fun _ hk => hk.2) (.int .i64 ((rd_T25 l0 x12_1).f2))) (fun _ hk => hk.2) (.int .i64 ((rd_T25 l0 x12_1).f3))) (fun _ hk => hk.1.1)⟩, ⟨by (with_reducible repeat (first | refine blk_drewN ?_ _ | refine blk_drew ?_ | refine blk_alloc ?_ _)); refine blk_far ?_ NB103_105.out _; (with_reducible repeat (first | refine blk_drewN ?_ _ | refine blk_drew ?_ | refine blk_alloc ?_ _)); refine blk_far ?_ NB103_105.out _; (with_reducible repeat (first | refine blk_drewN ?_ _ | refine blk_drew ?_ | refine blk_alloc ?_ _)); refine blk_far ?_ NB103_105.out _; (with_reducible repeat (first | refine blk_drewN ?_ _ | refine blk_drew ?_ | refine blk_alloc ?_ _)); refine blk_far ?_ NB103_105.out _; (with_reducible repeat (first | refine blk_drewN ?_ _ | refine blk_drew ?_ | refine blk_alloc ?_ _)); exact BK103.out⟩, ⟨by repeat (first | (with_reducible first | exact HB.out | apply below_alloc | apply pw_below_drewN | apply below_drew1 | refine below_set ?_ GE103.out | refine below_set ?_ GE105.out) | exact HB.out)⟩⟩
            · replace c9 := Bool.eq_false_iff.mpr c9
              subst c9
              have H1 : (if x7_1.length < 4398046511104 then (tier_Done.l0 k1 l1 (x7_1 ++ [(⟨(rd_T25 l0 x12_1).f0, (rd_T25 l0 x12_1).f1, (rd_T25 l0 x12_1).f2, (rd_T25 l0 x12_1).f3⟩ : S25)]) l0 (l0.length : Int) (wrap64 (x12_1 + 1)) a2_0 a2_1 a2_2 a2_3) else (none)) = some r := by rw [if_neg (show ¬ (false = true) by decide)] at H; exact H
              clear H
              have H := H1
              clear H1
              by_cases c13 : x7_1.length < 4398046511104
              · rw [if_pos c13] at H
                have LMc13 := Aside0.mk c13
                clear c13
                obtain ⟨y107, hy107⟩ : ∃ y_ : List (S25), y_ = (x7_1 ++ [(⟨(rd_T25 l0 x12_1).f0, (rd_T25 l0 x12_1).f1, (rd_T25 l0 x12_1).f2, (rd_T25 l0 x12_1).f3⟩ : S25)]) := ⟨_, rfl⟩
                replace H : (tier_Done.l0 k1 l1 y107 l0 (l0.length : Int) (wrap64 (x12_1 + 1)) a2_0 a2_1 a2_2 a2_3) = some r := by first | (rw [hy107]; with_reducible exact H) | (have H2_ := (Option.bind_some _ _).symm.trans H; rw [hy107]; with_reducible exact H2_) | (have H2_ := (Option.bind_some _ _).symm.trans H; with_reducible exact H2_) | with_reducible exact H | (rw [hy107]; exact H) | exact H
                have Ny107 := Aside0.mk hy107
                clear hy107
                have H' := Aside0.mk H
                clear H
                have p104 : 0 ≤ (x12_1 : Int) := of_decide_eq_true (by first | (with_reducible assumption) | assumption)
                have q104 : x12_1 < (l0.length : Int) := of_decide_eq_true (by first | (with_reducible assumption) | assumption)
                obtain ⟨ad104, e104, hx104_0, hx104_1, hx104_2, hx104_3⟩ := at_T25 HR0.out x12_1 p104 q104
                cases e104
                replace hx104_0 := (HB.out.cell (World.block_lt_of_cell? w _ hx104_0)).trans hx104_0
                replace hx104_1 := (HB.out.cell (World.block_lt_of_cell? w _ hx104_1)).trans hx104_1
                replace hx104_2 := (HB.out.cell (World.block_lt_of_cell? w _ hx104_2)).trans hx104_2
                replace hx104_3 := (HB.out.cell (World.block_lt_of_cell? w _ hx104_3)).trans hx104_3
                replace p104 := eq_true p104
                replace q104 := eq_true q104
                go_wp2_with (first | ((with_reducible refine gate_dst (N := 9) rfl ?_); refine box_event ?hg (N := 9) ?hd (cs := #[.int .i64 0, .int .i64 0, .int .i64 0, .int .i64 0]) (t := 25) ?hr ?_; (case hd => rfl); (case hg => rfl); (case hr => first | (go_simp; done) | (go_simp; rfl)); intro gb105 hg w14 hbox hb; have n0_ := Aside0.mk (Kd.R_below (Kd.R_elderB (by (with_reducible repeat (first | apply Kd.R_alloc | apply Kd.R_drewN | apply Kd.R_drew)); exact HO_7.out) gb105 (Nat.le_of_eq hg.symm)) hb); have n1_ := Aside0.mk (blk_below (g := gb103) (o := .cells #[.int .i64 a2_0, .int .i64 a2_1, .int .i64 a2_2, .int .i64 a2_3] 25 (0, 0)) (by (with_reducible repeat (first | refine blk_drewN ?_ _ | refine blk_drew ?_ | refine blk_alloc ?_ _)); exact BK103.out) hb); have n2_ := Aside0.mk (below_step (by repeat (first | (with_reducible first | exact HB.out | apply below_alloc | apply pw_below_drewN | apply below_drew1 | refine below_set ?_ GE103.out) | exact HB.out)) hb); have n3_ := Aside0.mk (hbox); have n4_ := Aside0.mk ((by rw [hg]; exact (below_size (by repeat (first | (with_reducible first | exact HB.out | apply below_alloc | apply pw_below_drewN | apply below_drew1 | refine below_set ?_ GE103.out) | exact HB.out))) : w.heap.size ≤ gb105)); have n5_ := Aside0.mk ((by rw [hg]; exact (below_size (by repeat (first | (with_reducible first | exact HB.out | apply below_alloc | apply pw_below_drewN | apply below_drew1 | refine below_set ?_ GE103.out) | exact HB.out))) : w.heap.size ≤ gb105)); have n6_ := Aside0.mk ((by rw [hg]; exact Nat.ne_of_lt (blk_lt (g := gb103) (o := .cells #[.int .i64 a2_0, .int .i64 a2_1, .int .i64 a2_2, .int .i64 a2_3] 25 (0, 0)) (by (with_reducible repeat (first | refine blk_drewN ?_ _ | refine blk_drew ?_ | refine blk_alloc ?_ _)); exact BK103.out)) : gb103 ≠ gb105)); have n7_ := Aside0.mk ((by rw [hg]; exact Nat.ne_of_gt (blk_lt (g := gb103) (o := .cells #[.int .i64 a2_0, .int .i64 a2_1, .int .i64 a2_2, .int .i64 a2_3] 25 (0, 0)) (by (with_reducible repeat (first | refine blk_drewN ?_ _ | refine blk_drew ?_ | refine blk_alloc ?_ _)); exact BK103.out)) : gb105 ≠ gb103)); clear HO_7; clear BK103; clear HB; have HO_7 := n0_; have BK103 := n1_; have HB := n2_; have BK105 := n3_; have GW105 := n4_; have GE105 := n5_; have NB103_105 := n6_; have NB105_103 := n7_; clear n0_ n1_ n2_ n3_ n4_ n5_ n6_ n7_; clear hb hbox hg; have hnb15 := NB105_103.out; have hnc15 := NB103_105.out; have hcz16_0 : w14.cell? ⟨gb105, 0, none⟩ = some (.int .i64 0) := (blk_cell BK105.out 0).trans rfl; have hcz16_1 : w14.cell? ⟨gb105, 1, none⟩ = some (.int .i64 0) := (blk_cell BK105.out 1).trans rfl; have hcz16_2 : w14.cell? ⟨gb105, 2, none⟩ = some (.int .i64 0) := (blk_cell BK105.out 2).trans rfl; have hcz16_3 : w14.cell? ⟨gb105, 3, none⟩ = some (.int .i64 0) := (blk_cell BK105.out 3).trans rfl; have hfz16_0 := blk_frozen BK105.out 0; have hfz16_1 := blk_frozen BK105.out 1; have hfz16_2 := blk_frozen BK105.out 2; have hfz16_3 := blk_frozen BK105.out 3) | ((with_reducible refine gate_callee (f := 30) rfl ?_); refine goesL_ (some 19) rfl rfl Try.func30 (by kernel_rfl) rfl #[.slice A1 l1.length c1, .int .i64 x12_1] rfl (by (try simp only [List.map_toArray, List.map_cons, List.map_nil]); first | done | rfl | (simp only [List.length_drop, List.length_take]; rfl)) ?_; (with_reducible refine (slices_Contains_int_int.calls k1 _ _ l1 x12_1 false _ ?side1 ?side2 A8.out).mono ?_); (case side1 => exact Kd.C_below HR1.out (by repeat (first | (with_reducible first | exact HB.out | apply below_alloc | apply pw_below_drewN | apply below_drew1 | refine below_set ?_ GE103.out | refine below_set ?_ GE105.out) | exact HB.out))); (case side2 => exact HC1.out); rintro e w' ⟨rfl, ⟨nd, rfl⟩⟩; refine ⟨_, rfl, ?_⟩) | ((with_reducible refine gate_builtin (b := .append) (xs := #[.tmp 21, .tmp 23]) rfl ?_); at_builtin; refine Kd.R_append k25 (w0 := w) w.heap.size rfl (.tmp 21) (.tmp 23) 22 25 (.agg #[(.int .i64 0), (.int .i64 0), (.int .i64 0), (.int .i64 0)]) 32 rfl Try.underlying22 info25 rfl (by decide) (by omega) u7 x7_1 (⟨(rd_T25 l0 x12_1).f0, (rd_T25 l0 x12_1).f1, (rd_T25 l0 x12_1).f2, (rd_T25 l0 x12_1).f3⟩ : S25) [.int .i64 ((rd_T25 l0 x12_1).f0), .int .i64 ((rd_T25 l0 x12_1).f1), .int .i64 ((rd_T25 l0 x12_1).f2), .int .i64 ((rd_T25 l0 x12_1).f3)] (fun k_ => k_ ≠ gb103 ∧ k_ ≠ gb105) (fun _ => False) rfl (by first | (go_simp; done) | (go_simp; rfl)) ?aP (fun _ hk => hk.elim) ?aF ?aO ?aB ?aS ?aL ?_; (case aP => exact k25_mkM _ _ _ (⟨(rd_T25 l0 x12_1).f0, (rd_T25 l0 x12_1).f1, (rd_T25 l0 x12_1).f2, (rd_T25 l0 x12_1).f3⟩ : S25)); (case aB => exact (by repeat (first | (with_reducible first | exact HB.out | apply below_alloc | apply pw_below_drewN | apply below_drew1 | refine below_set ?_ GE103.out | refine below_set ?_ GE105.out) | exact HB.out))); (case aF => exact (fun k_ hk => ⟨Kd.freshB (g := gb103) (o := .cells #[.int .i64 a2_0, .int .i64 a2_1, .int .i64 a2_2, .int .i64 a2_3] 25 (0, 0)) (by (with_reducible repeat (first | refine blk_drewN ?_ _ | refine blk_drew ?_ | refine blk_alloc ?_ _)); refine blk_far ?_ NB103_105.out _; (with_reducible repeat (first | refine blk_drewN ?_ _ | refine blk_drew ?_ | refine blk_alloc ?_ _)); refine blk_far ?_ NB103_105.out _; (with_reducible repeat (first | refine blk_drewN ?_ _ | refine blk_drew ?_ | refine blk_alloc ?_ _)); refine blk_far ?_ NB103_105.out _; (with_reducible repeat (first | refine blk_drewN ?_ _ | refine blk_drew ?_ | refine blk_alloc ?_ _)); refine blk_far ?_ NB103_105.out _; (with_reducible repeat (first | refine blk_drewN ?_ _ | refine blk_drew ?_ | refine blk_alloc ?_ _)); exact BK103.out) k_ hk, Kd.freshB (g := gb105) (o := .cells #[.int .i64 ((rd_T25 l0 x12_1).f0), .int .i64 ((rd_T25 l0 x12_1).f1), .int .i64 ((rd_T25 l0 x12_1).f2), .int .i64 ((rd_T25 l0 x12_1).f3)] 25 (0, 0)) (by (with_reducible repeat (first | refine blk_drewN ?_ _ | refine blk_drew ?_ | refine blk_alloc ?_ _)); refine blk_put (cs := #[.int .i64 ((rd_T25 l0 x12_1).f0), .int .i64 ((rd_T25 l0 x12_1).f1), .int .i64 ((rd_T25 l0 x12_1).f2), .int .i64 0]) ?_ 3 _ rfl; (with_reducible repeat (first | refine blk_drewN ?_ _ | refine blk_drew ?_ | refine blk_alloc ?_ _)); refine blk_put (cs := #[.int .i64 ((rd_T25 l0 x12_1).f0), .int .i64 ((rd_T25 l0 x12_1).f1), .int .i64 0, .int .i64 0]) ?_ 2 _ rfl; (with_reducible repeat (first | refine blk_drewN ?_ _ | refine blk_drew ?_ | refine blk_alloc ?_ _)); refine blk_put (cs := #[.int .i64 ((rd_T25 l0 x12_1).f0), .int .i64 0, .int .i64 0, .int .i64 0]) ?_ 1 _ rfl; (with_reducible repeat (first | refine blk_drewN ?_ _ | refine blk_drew ?_ | refine blk_alloc ?_ _)); refine blk_put (cs := #[.int .i64 0, .int .i64 0, .int .i64 0, .int .i64 0]) ?_ 0 _ rfl; (with_reducible repeat (first | refine blk_drewN ?_ _ | refine blk_drew ?_ | refine blk_alloc ?_ _)); exact BK105.out) k_ hk⟩)); (case aO => exact (by (with_reducible repeat (first | apply Kd.R_alloc | apply Kd.R_drewN | apply Kd.R_drew)); exact Kd.R_mono (Kd.R_far (p := ⟨gb105, 3, none⟩) (Kd.R_far (p := ⟨gb105, 2, none⟩) (Kd.R_far (p := ⟨gb105, 1, none⟩) (Kd.R_far (p := ⟨gb105, 0, none⟩) (Kd.R_mono HO_7.out (fun k_ hk => (⟨hk, hk.2⟩ : _ ∧ k_ ≠ gb105))) (fun _ hk => hk.2) (.int .i64 ((rd_T25 l0 x12_1).f0))) (fun _ hk => hk.2) (.int .i64 ((rd_T25 l0 x12_1).f1))) (fun _ hk => hk.2) (.int .i64 ((rd_T25 l0 x12_1).f2))) (fun _ hk => hk.2) (.int .i64 ((rd_T25 l0 x12_1).f3))) (fun _ hk => ⟨hk.1.1, hk.1.2⟩))); (case aS => exact (below_size (by repeat (first | (with_reducible first | exact HB.out | apply below_alloc | apply pw_below_drewN | apply below_drew1 | refine below_set ?_ GE103.out | refine below_set ?_ GE105.out) | exact HB.out)))); (case aL => have := LMc13.out; omega); intro v108 w17 ho hb hg hat; rw [← Ny107.out] at ho; have n0_ := Aside0.mk (blk_grown (g := gb103) (o := .cells #[.int .i64 a2_0, .int .i64 a2_1, .int .i64 a2_2, .int .i64 a2_3] 25 (0, 0)) (by (with_reducible repeat (first | refine blk_drewN ?_ _ | refine blk_drew ?_ | refine blk_alloc ?_ _)); refine blk_far ?_ NB103_105.out _; (with_reducible repeat (first | refine blk_drewN ?_ _ | refine blk_drew ?_ | refine blk_alloc ?_ _)); refine blk_far ?_ NB103_105.out _; (with_reducible repeat (first | refine blk_drewN ?_ _ | refine blk_drew ?_ | refine blk_alloc ?_ _)); refine blk_far ?_ NB103_105.out _; (with_reducible repeat (first | refine blk_drewN ?_ _ | refine blk_drew ?_ | refine blk_alloc ?_ _)); refine blk_far ?_ NB103_105.out _; (with_reducible repeat (first | refine blk_drewN ?_ _ | refine blk_drew ?_ | refine blk_alloc ?_ _)); exact BK103.out) hg (Kd.R_away HO_7.out (fun _ hk => hk.1))); have n1_ := Aside0.mk (blk_grown (g := gb105) (o := .cells #[.int .i64 ((rd_T25 l0 x12_1).f0), .int .i64 ((rd_T25 l0 x12_1).f1), .int .i64 ((rd_T25 l0 x12_1).f2), .int .i64 ((rd_T25 l0 x12_1).f3)] 25 (0, 0)) (by (with_reducible repeat (first | refine blk_drewN ?_ _ | refine blk_drew ?_ | refine blk_alloc ?_ _)); refine blk_put (cs := #[.int .i64 ((rd_T25 l0 x12_1).f0), .int .i64 ((rd_T25 l0 x12_1).f1), .int .i64 ((rd_T25 l0 x12_1).f2), .int .i64 0]) ?_ 3 _ rfl; (with_reducible repeat (first | refine blk_drewN ?_ _ | refine blk_drew ?_ | refine blk_alloc ?_ _)); refine blk_put (cs := #[.int .i64 ((rd_T25 l0 x12_1).f0), .int .i64 ((rd_T25 l0 x12_1).f1), .int .i64 0, .int .i64 0]) ?_ 2 _ rfl; (with_reducible repeat (first | refine blk_drewN ?_ _ | refine blk_drew ?_ | refine blk_alloc ?_ _)); refine blk_put (cs := #[.int .i64 ((rd_T25 l0 x12_1).f0), .int .i64 0, .int .i64 0, .int .i64 0]) ?_ 1 _ rfl; (with_reducible repeat (first | refine blk_drewN ?_ _ | refine blk_drew ?_ | refine blk_alloc ?_ _)); refine blk_put (cs := #[.int .i64 0, .int .i64 0, .int .i64 0, .int .i64 0]) ?_ 0 _ rfl; (with_reducible repeat (first | refine blk_drewN ?_ _ | refine blk_drew ?_ | refine blk_alloc ?_ _)); exact BK105.out) hg (Kd.R_away HO_7.out (fun _ hk => hk.2))); have n2_ := Aside0.mk (hb); have n3_ := Aside0.mk (ho); clear BK103; clear BK105; clear HB; clear HO_7; have BK103 := n0_; have BK105 := n1_; have HB := n2_; have HO109 := n3_; clear n0_ n1_ n2_ n3_; clear ho hb hg hat))
                go_roundg k1
                case measure => have := HK1.out; omega
                case rel => exact ⟨(y107), (wrap64 (x12_1 + 1)), (by first | rfl | (simp; done) | (simp [*]; done)), H', ⟨by have := HK1.out; omega⟩, ⟨by (with_reducible repeat (first | apply Kd.R_alloc | apply Kd.R_drewN | apply Kd.R_drew)); exact Kd.R_mono HO109.out (fun _ hk => hk.1)⟩, ⟨by (with_reducible repeat (first | refine blk_drewN ?_ _ | refine blk_drew ?_ | refine blk_alloc ?_ _)); exact BK103.out⟩, ⟨by repeat (first | (with_reducible first | exact HB.out | apply below_alloc | apply pw_below_drewN | apply below_drew1 | refine below_set ?_ GE103.out | refine below_set ?_ GE105.out) | exact HB.out)⟩⟩
              · rw [if_neg c13] at H
                exact absurd H (by simp)
          · rw [if_neg c7] at H
            exact absurd H (by simp)
        · rw [if_neg c6] at H
          exact absurd H (by simp)
      · rw [if_neg c5] at H
        have c5b0 : decide (x12_1 < (l0.length : Int)) = false := decide_eq_false c5
        clear c5
        by_cases c18 : x7_1.length < 4398046511104
        · rw [if_pos c18] at H
          have LMc18 := Aside0.mk c18
          clear c18
          obtain ⟨y110, hy110⟩ : ∃ y_ : List (S25), y_ = (x7_1 ++ [(⟨a2_0, a2_1, a2_2, a2_3⟩ : S25)]) := ⟨_, rfl⟩
          replace H : (some y110) = some r := by first | (rw [hy110]; with_reducible exact H) | (have H2_ := (Option.bind_some _ _).symm.trans H; rw [hy110]; with_reducible exact H2_) | (have H2_ := (Option.bind_some _ _).symm.trans H; with_reducible exact H2_) | with_reducible exact H | (rw [hy110]; exact H) | exact H
          have Ny110 := Aside0.mk hy110
          clear hy110
          obtain rfl := Option.some.inj H
          have hcz19_0 : wr.cell? ⟨gb103, 0, none⟩ = some (.int .i64 a2_0) := (blk_cell BK103.out 0).trans rfl
          have hcz19_1 : wr.cell? ⟨gb103, 1, none⟩ = some (.int .i64 a2_1) := (blk_cell BK103.out 1).trans rfl
          have hcz19_2 : wr.cell? ⟨gb103, 2, none⟩ = some (.int .i64 a2_2) := (blk_cell BK103.out 2).trans rfl
          have hcz19_3 : wr.cell? ⟨gb103, 3, none⟩ = some (.int .i64 a2_3) := (blk_cell BK103.out 3).trans rfl
          have hfz19_0 := blk_frozen BK103.out 0
          have hfz19_1 := blk_frozen BK103.out 1
          have hfz19_2 := blk_frozen BK103.out 2
          have hfz19_3 := blk_frozen BK103.out 3
          go_wp2_with (first | ((with_reducible refine gate_builtin (b := .append) (xs := #[.tmp 26, .tmp 28]) rfl ?_); at_builtin; refine Kd.R_append k25 (w0 := w) w.heap.size rfl (.tmp 26) (.tmp 28) 22 25 (.agg #[(.int .i64 0), (.int .i64 0), (.int .i64 0), (.int .i64 0)]) 32 rfl Try.underlying22 info25 rfl (by decide) (by omega) u7 x7_1 (⟨a2_0, a2_1, a2_2, a2_3⟩ : S25) [.int .i64 a2_0, .int .i64 a2_1, .int .i64 a2_2, .int .i64 a2_3] (fun k_ => k_ ≠ gb103) (fun _ => False) rfl rfl ?aP (fun _ hk => hk.elim) ?aF ?aO ?aB ?aS ?aL ?_; (case aP => exact k25_mkM _ _ _ (⟨a2_0, a2_1, a2_2, a2_3⟩ : S25)); (case aB => exact (by repeat (first | (with_reducible first | exact HB.out | apply below_alloc | apply pw_below_drewN | apply below_drew1 | refine below_set ?_ GE103.out) | exact HB.out))); (case aF => exact (fun k_ hk => Kd.freshB (g := gb103) (o := .cells #[.int .i64 a2_0, .int .i64 a2_1, .int .i64 a2_2, .int .i64 a2_3] 25 (0, 0)) (by (with_reducible repeat (first | refine blk_drewN ?_ _ | refine blk_drew ?_ | refine blk_alloc ?_ _)); exact BK103.out) k_ hk)); (case aO => exact (by (with_reducible repeat (first | apply Kd.R_alloc | apply Kd.R_drewN | apply Kd.R_drew)); exact HO_7.out)); (case aS => exact (below_size (by repeat (first | (with_reducible first | exact HB.out | apply below_alloc | apply pw_below_drewN | apply below_drew1 | refine below_set ?_ GE103.out) | exact HB.out)))); (case aL => have := LMc18.out; omega); intro v111 w20 ho hb hg hat; rw [← Ny110.out] at ho; have n0_ := Aside0.mk (blk_grown (g := gb103) (o := .cells #[.int .i64 a2_0, .int .i64 a2_1, .int .i64 a2_2, .int .i64 a2_3] 25 (0, 0)) (by (with_reducible repeat (first | refine blk_drewN ?_ _ | refine blk_drew ?_ | refine blk_alloc ?_ _)); exact BK103.out) hg (Kd.R_away HO_7.out (fun _ hk => hk))); have n1_ := Aside0.mk (hb); have n2_ := Aside0.mk (ho); clear BK103; clear HB; clear HO_7; have BK103 := n0_; have HB := n1_; have HO112 := n2_; clear n0_ n1_ n2_; clear ho hb hg hat))
          go_ret
          exact ⟨_, by first | rfl | (simp [errW_none, errW_some] <;> rfl) | (simp [*, errW_none, errW_some] <;> rfl), by (with_reducible repeat (first | apply Kd.R_alloc | apply Kd.R_drewN | apply Kd.R_drew)); exact Kd.R_mono HO112.out (fun _ hk => trivial), by repeat (first | (with_reducible first | exact HB.out | apply below_alloc | apply pw_below_drewN | apply below_drew1 | refine below_set ?_ GE103.out) | exact HB.out)⟩
        · rw [if_neg c18] at H
          exact absurd H (by simp)

end Go.Proofs.Ytbbgnapepkenaaa.Q
