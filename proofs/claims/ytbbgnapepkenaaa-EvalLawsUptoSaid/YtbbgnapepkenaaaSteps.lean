/- Steps of a drawing region that the print's own words lack: a string appended to a row of bytes. Over any program. -/
import Derived.Test.YtbbgnapepkenaaaWWords
import Derived.Test.YtbbgnapepkenaaaWLast
import Derived.Test.YtbbgnapepkenaaaWMore
namespace Go.Proofs.YtbbgnapepkenaaaW.PrintMore
open Go.RowKit Go.Proofs.YtbbgnapepkenaaaW.PrintWords
set_option linter.unusedVariables false
theorem print_append_str_step {P : Program} {ops : Array Oper} {o : Oper} {a : Act} {Q : Exit → Act → World → Prop} {Kc : Act → World → Prop} {w0 W : World} (base : Nat) (hw : Region.wanted o (yielded ops a.tmps) = true) (s x : Operand) (t u e : TypeId)
    (ho : o.op = .call { callee := .builtin .append, args := #[s, x], argTypes := #[t, u] })
    (ht : P.underlying t = some (.slice e)) (hu : P.underlying u = some .string) (hinfo : (P.info? e).map (fun i => (i.zero, i.size, i.bytes)) = some (some (.int .u8 0), 1, 1))
    (v : Value) (xs : List Int) (y : ByteArray) (hs : a.eval s = v) (hx : a.eval x = .string y)
    (HO : W.ownsRow base e 1 v xs.length (nums .u8 xs)) (HB : Below base w0 W) (hbase : base ≤ W.heap.size) (hl : xs.length + y.size ≤ 140737488355328)
    (h : ∀ v1 w1, w1.ownsRow base e 1 v1 (xs ++ bytesOf y).length (nums .u8 (xs ++ bytesOf y)) → Below base w0 w1 → W.grownBy w1 v.ownBlock → Kc (a.put o.dst v1) w1) :
    if Region.wanted o (yielded ops a.tmps) = true then Oper.wp P o a W Kc Q else Kc (a.put o.dst undef) W := by
  rw [if_pos hw]
  obtain ⟨i0, hi, hzz⟩ := Option.map_eq_some_iff.1 hinfo
  simp only [Prod.mk.injEq] at hzz
  obtain ⟨hz0, hz1, hz2⟩ := hzz
  obtain ⟨v1, w1, hr, hown, hg, _⟩ := Lib.run_append_own_string (P := P) W base t u o.type e i0 ht hu hi hz0 hz1 hz2 v xs.length (nums .u8 xs) HO y (by simp only [maxLen]; omega) hl hbase
  have hl2 : (xs ++ bytesOf y).length = xs.length + y.size := by rw [List.length_append, bytesOf_length]
  have hc : nums .u8 (xs ++ bytesOf y) = nums .u8 xs ++ Lib.strCells y := by
    rw [nums_append]
    congr 1
    simp [nums, bytesOf, Lib.strCells]
  unfold Oper.wp execOp
  simp only [ho, resolve, invoke, builtin, Sem.run_bind, Sem.run_pure, Result.andThen_ok, List.map_toArray, List.map_cons, List.map_nil, hs, hx, hr]
  exact h v1 w1 (by rw [hl2, hc]; exact hown) (HB.grown hg hbase (own_base HO)) hg
/-- '[]byte(s)': a row that is only read. -/
theorem bytes_V {W : World} {e base : Nat} (s : ByteArray) (hl : s.size ≤ 9223372036854775807) :
    Kd.V (Kd.int .u8) e (Lib.bytesWorld W e s) base (fun k => W.heap.size ≤ k) (.slice (some ⟨W.heap.size, 0, none⟩) s.size (grownCap W s.size 0 e)) (bytesOf s) := by
  have hr : ReadsInt (Lib.bytesWorld W e s) .u8 (some ⟨W.heap.size, 0, none⟩) s.size (bytesOf s) := bytes_reads W e s hl
  refine ⟨_, _, by rw [bytesOf_length], by rw [bytesOf_length]; exact grownCap_ge _ _ _ _, ?_⟩
  rw [bytesOf_length]
  intro W' hW
  refine Kd.C_of_reads (enc := Value.int .u8) (d := 0) (h1 := fun _ => rfl) ⟨hr.1, hr.2.1, fun hn => ?_⟩
  obtain ⟨ad, he, hc⟩ := hr.2.2 hn
  refine ⟨ad, he, fun j hj => ?_⟩
  injection he with he
  have h1 : (ad.add j).block = W.heap.size := by rw [← he, add_plain]
  rw [World.cell?_of_block (w := Lib.bytesWorld W e s) (w' := W') (by rw [h1]; exact hW _ (Nat.le_refl _) (by rw [Lib.bytesWorld_size]; omega))]
  exact hc j hj
namespace Kd
theorem V_bytes {P : Program} {ops : Array Oper} {rest : List Oper} {o : Oper} {a : Act} {Q : Exit → Act → World → Prop} {w0 W : World} (base e : Nat) (hgd : o.guard = none) {N : Tmp} (_hd : o.dst = some N) (src dst : TypeId) (x : Operand) (ho : o.op = .convert src dst x) (s : ByteArray) (hx : a.eval x = .string s)
    {u : TypeDesc} (hs : P.underlying src = some u) (ht : P.underlying dst = some (.slice e)) (he : P.underlying e = some (.int .u8)) (hl : s.size ≤ 140737488355328) (HB : Below base w0 W) (hbase : base ≤ W.heap.size)
    (h : ∀ v1 w1, Kd.V (Kd.int .u8) e w1 base (fun k => W.heap.size ≤ k) v1 (bytesOf s) → Below base w0 w1 → W.grownBy w1 none → (∃ b, v1.ownBlock = some b ∧ W.heap.size ≤ b) → wpList P ops Q rest (a.put o.dst v1) w1) : wpList P ops Q (o :: rest) a W := by
  refine Go.Proofs.YtbbgnapepkenaaaW.PrintWords.Kd.event_run hgd (v := .slice (some ⟨W.heap.size, 0, none⟩) s.size (grownCap W s.size 0 e)) (w1 := Lib.bytesWorld W e s) ?_ (h _ _ (bytes_V s (by omega)) (bytes_below HB hbase e s) (grown_of_below (bytes_below (Below.refl _ _) (Nat.le_refl _) e s) none) ⟨W.heap.size, rfl, Nat.le_refl _⟩)
  simp [execOp, ho, hx, print_bytes src dst e hs ht he s W]
theorem V_bytes_step {P : Program} {ops : Array Oper} {o : Oper} {a : Act} {Q : Exit → Act → World → Prop} {Kc : Act → World → Prop} {w0 W : World} (base e : Nat) (hw : Region.wanted o (yielded ops a.tmps) = true) {N : Tmp} (_hd : o.dst = some N) (src dst : TypeId) (x : Operand) (ho : o.op = .convert src dst x) (s : ByteArray) (hx : a.eval x = .string s)
    {u : TypeDesc} (hs : P.underlying src = some u) (ht : P.underlying dst = some (.slice e)) (he : P.underlying e = some (.int .u8)) (hl : s.size ≤ 140737488355328) (HB : Below base w0 W) (hbase : base ≤ W.heap.size)
    (h : ∀ v1 w1, Kd.V (Kd.int .u8) e w1 base (fun k => W.heap.size ≤ k) v1 (bytesOf s) → Below base w0 w1 → W.grownBy w1 none → (∃ b, v1.ownBlock = some b ∧ W.heap.size ≤ b) → Kc (a.put o.dst v1) w1) :
    if Region.wanted o (yielded ops a.tmps) = true then Oper.wp P o a W Kc Q else Kc (a.put o.dst undef) W := by
  refine event_step hw (v := .slice (some ⟨W.heap.size, 0, none⟩) s.size (grownCap W s.size 0 e)) (w1 := Lib.bytesWorld W e s) ?_ (h _ _ (bytes_V s (by omega)) (bytes_below HB hbase e s) (grown_of_below (bytes_below (Below.refl _ _) (Nat.le_refl _) e s) none) ⟨W.heap.size, rfl, Nat.le_refl _⟩)
  simp [execOp, ho, hx, print_bytes src dst e hs ht he s W]
end Kd
theorem am {p : Prop} (h : p) : Aside0 p := ⟨h⟩
/-- A world behind draws and new blocks. -/
class Ups (W W1 : World) : Prop where
  h : Below W.heap.size W W1
instance ups_refl (W : World) : Ups W W := ⟨Below.refl _ _⟩
instance ups_alloc (W W1 : World) [u : Ups W W1] (o : Obj) : Ups W (W1.alloc o) := ⟨below_alloc u.h o⟩
instance ups_drewN (W W1 : World) [u : Ups W W1] (n : Nat) : Ups W (W1.drewN n) := ⟨pw_below_drewN u.h n⟩
instance ups_drew (W W1 : World) [u : Ups W W1] : Ups W W1.drew := ⟨below_drew u.h⟩
section
variable {α : Type} {d : Kd α} {W W1 w : World} {e base g : Nat} {ok : Nat → Prop} {v : Value} {xs : List α} {o : Obj}
theorem vU (h : Kd.V d e W base ok v xs) [u : Ups W W1] : Kd.V d e W1 base ok v xs := Kd.V_below h u.h
theorem rU (h : Kd.R d e W base ok v xs) [u : Ups W W1] : Kd.R d e W1 base ok v xs := Kd.R_below h u.h
theorem nU (h : Kd.N d e W base ok v xs) [u : Ups W W1] : Kd.N d e W1 base ok v xs := Kd.N_below h u.h
theorem bU (h : W.heap[g]? = some o) [u : Ups W W1] : W1.heap[g]? = some o := blk_below h u.h
theorem lU (h : Below w.heap.size w W) [u : Ups W W1] : Below w.heap.size w W1 := below_step h u.h
end
end Go.Proofs.YtbbgnapepkenaaaW.PrintMore
