/- strconv.ParseUint of two hexadecimal digits, base 16, 8 bits: their number. A walk after the kit's walk of base 10. Over any program that bears the function. -/
import Derived.Shelf.Pu.Lays
import Derived.Shelf.Pu.Lower
import Derived.Lib.Strings
import Derived.Lib.Walk
import Derived.Lib.ConvBytes
import Derived.Lib.AtoiErrMem
import Derived.Lib.ParseIntBMem
import Derived.Lib.Hide
import Derived.Laws.Strings3
import Derived.Laws.Closers25
import Derived.Laws.Closers25b
import Derived.WalkKit
import Derived.BigCall
import Derived.BigGuard
namespace Go.Proofs.YtfoijdahgkngpaaDoor.Pu16
open Go.Proofs Go.Shelf Go.RowKit
/-- A hexadecimal digit's number. -/
def hexv (c : Nat) : Option Nat := if 48 ≤ c ∧ c ≤ 57 then some (c - 48) else if 97 ≤ c ∧ c ≤ 102 then some (c - 87) else if 65 ≤ c ∧ c ≤ 70 then some (c - 55) else none
/-- The number of a row of such digits, behind a number. -/
def hexM : Nat → List UInt8 → Option Nat
  | acc, [] => some acc
  | acc, c :: r => (hexv c.toNat).bind fun d => hexM (acc * 16 + d) r
theorem hexv_lt {c d : Nat} (h : hexv c = some d) : d < 16 := by
  unfold hexv at h
  split at h
  · injection h with h; omega
  · split at h
    · injection h with h; omega
    · split at h
      · injection h with h; omega
      · cases h
/-- A letter that is one: what stands for it once the bit 32 is set. -/
theorem hexv_letter {c d : Nat} (h : hexv c = some d) (hd : ¬ (48 ≤ c ∧ c ≤ 57)) : bits .or .u8 (c : Int) 32 = ((d + 87 : Nat) : Int) ∧ 10 ≤ d ∧ c ≠ 95 ∧ 57 < c := by
  unfold hexv at h
  rw [if_neg hd] at h
  split at h
  · injection h with h
    have : c = 97 ∨ c = 98 ∨ c = 99 ∨ c = 100 ∨ c = 101 ∨ c = 102 := by omega
    rcases this with rfl | rfl | rfl | rfl | rfl | rfl <;> subst h <;> exact ⟨by decide +kernel, by omega, by omega, by omega⟩
  · split at h
    · injection h with h
      have : c = 65 ∨ c = 66 ∨ c = 67 ∨ c = 68 ∨ c = 69 ∨ c = 70 := by omega
      rcases this with rfl | rfl | rfl | rfl | rfl | rfl <;> subst h <;> exact ⟨by decide +kernel, by omega, by omega, by omega⟩
    · cases h
variable {P : Program} {ρ : Ren}
set_option maxHeartbeats 32000000 in
set_option maxRecDepth 100000 in
/-- internal/strconv.ParseUint(s, 16, 8), s two hexadecimal digits. -/
theorem inner (L : LaysPu.n16 P ρ) (t : ByteArray) (h2 : t.size = 2) (u : Nat) (hu : hexM 0 t.data.toList = some u) (w : World) :
    Calls P (ρ.f 16) #[.string t, .int .i64 16, .int .i64 8] w fun e w' => e = .returned (.tuple #[.int .u64 u, .nilIface]) ∧ w' = Lib.bytesWorld w (ρ.t 5) t := by
  have mixed := L.mixed
  have t9 := L.t9; have a9 := L.a9; have z9 := L.z9; have v9 := L.v9
  have t3 := L.t3; have a3 := L.a3; have z3 := L.z3; have v3 := L.v3
  have t22 := L.t22; have a22 := L.a22; have z22 := L.z22; have v22 := L.v22
  have t24 := L.t24; have a24 := L.a24; have z24 := L.z24; have v24 := L.v24
  have t4 := L.t4; have a4 := L.a4; have z4 := L.z4; have v4 := L.v4
  have t34 := L.t34; have a34 := L.a34; have z34 := L.z34; have v34 := L.v34
  have t5 := L.t5; have a5 := L.a5; have z5 := L.z5; have v5 := L.v5
  have t36 := L.t36; have a36 := L.a36; have z36 := L.z36; have v36 := L.v36
  have t37 := L.t37; have a37 := L.a37; have z37 := L.z37; have v37 := L.v37
  have t0 := L.t0; have a0 := L.a0; have z0 := L.z0; have v0 := L.v0
  have e19 : ∀ args w, (callFunc (ρ.f 19) args).run P w = .ok (.enter (ρ.f 19) args) w := enters_of L.f19 (by kernel_rfl) rfl
  have hne : t.size ≠ 0 := by omega
  have hmax : t.size ≤ 9223372036854775806 := by omega
  have hemp : t.toList.isEmpty = false := by
    rw [← decide_eq_emptyBytes]
    exact decide_eq_false (fun h => hne (by rw [h]; rfl))
  have hcv := Lib.run_convert_string_bytes (P := P) w (ρ.t 9) (ρ.t 37) (ρ.t 5) t (u := .string) L.t9 L.t37 L.t5
  have hB : ∀ j, j < t.size → (Lib.bytesWorld w (ρ.t 5) t).cell? ⟨w.heap.size, j, none⟩ = some (.int .u8 (t.data.toList.getD j 0).toNat) := fun j hj => Lib.bytesWorld_cell w (ρ.t 5) t j hj
  obtain ⟨W1, hW1⟩ : ∃ W1, W1 = Lib.bytesWorld w (ρ.t 5) t := ⟨_, rfl⟩
  rw [← hW1] at hcv hB ⊢
  clear hW1
  obtain ⟨bs, hL⟩ : ∃ bs, bs = t.data.toList := ⟨_, rfl⟩
  have hLn : bs.length = t.size := by rw [hL, Lib.size_eq]
  rw [← hL] at hB hu
  clear hL
  have hmv : IntKind.u64.wrap (IntKind.u64.wrap 256 - 1) = 255 := by
    rw [IntKind.wrap_u64, IntKind.wrap_u64]
    decide
  go_enter L.f16, BodyPu.n16_ntmps ρ
  go_wp2
  go_loop [12, 13, 101] (fun vu vn vi => ∃ (k acc : Nat) (a : Int), vu = .bool false ∧ vn = .int .u64 a ∧ vi = .int .i64 k ∧ k ≤ t.size ∧ Hid (a = (acc : Int) ∧ acc < 16 ^ k ∧ hexM acc (bs.drop k) = some u))
    (fun _ _ vi => t.size - (intOf vi).toNat)
  case atStart => exact ⟨0, 0, 0, rfl, rfl, rfl, by omega, rfl, by omega, hu⟩
  case round =>
    obtain ⟨k, acc, a, rfl, rfl, rfl, hk, hh⟩ := hrel
    obtain ⟨ha, hacc, hdec⟩ := hh.out
    clear hh hu
    have a0 : 0 ≤ a := by omega
    by_cases hkn : k < t.size
    · have ha15 : a < 16 := by
        have : (16 : Nat) ^ k ≤ 16 ^ 1 := Nat.pow_le_pow_right (by omega) (by omega)
        omega
      have hc := hB k hkn
      have hdrop : bs.drop k = bs[k]'(by omega) :: bs.drop (k + 1) := List.drop_eq_getElem_cons (by omega)
      have hget : bs.getD k 0 = bs[k]'(by omega) := by simp [List.getD, List.getElem?_eq_getElem (show k < bs.length by omega)]
      rw [hdrop] at hdec
      rw [hget] at hc
      generalize bs[k]'(by omega) = c at hc hdec
      have hc256 : c.toNat < 256 := c.toNat_lt
      clear hB hdrop hget
      simp only [hexM] at hdec
      obtain ⟨d, hd, hdec⟩ := Option.bind_eq_some_iff.1 hdec
      have hd16 := hexv_lt hd
      have HN : Hid (a * 16 + (d : Int) = ((acc * 16 + d : Nat) : Int) ∧ acc * 16 + d < 16 ^ (k + 1) ∧ hexM (acc * 16 + d) (bs.drop (k + 1)) = some u) := Lib.hid ⟨by omega, by rw [Nat.pow_succ]; omega, hdec⟩
      by_cases hdig : 48 ≤ c.toNat ∧ c.toNat ≤ 57
      · obtain ⟨hd0, hd1⟩ := hdig
        have hdv : (d : Int) = (c.toNat : Int) - 48 := by
          unfold hexv at hd
          rw [if_pos ⟨hd0, hd1⟩] at hd
          injection hd with hd
          omega
        rw [hdv] at HN
        clear hdec hacc ha hd hd16 hdv
        go_wp2
        refine ⟨⟨k + 1, acc * 16 + d, a * 16 + ((c.toNat : Int) - 48), rfl, (by first | rfl | (congr 1; omega)), (by first | rfl | (congr 1; omega)), by omega, HN⟩, by simp [intOf]; omega⟩
      · obtain ⟨hb, h10, h95, h57⟩ := hexv_letter hd hdig
        have hlow : Calls P (ρ.f 19) #[.int .u8 (c.toNat : Int)] W1 fun e w' => e = .returned (.int .u8 ((d + 87 : Nat) : Int)) ∧ w' = W1 := by
          have h := AnyPu.internal_strconv_lower (P := P) (ρ := ρ) { L with } (c.toNat : Int) W1
          rw [hb] at h
          exact h
        obtain ⟨L0, hL0⟩ : ∃ x : Int, x = ((d + 87 : Nat) : Int) := ⟨_, rfl⟩
        rw [← hL0] at hlow
        have hdv : (d : Int) = L0 - 87 := by omega
        rw [hdv] at HN
        have l0 : 97 ≤ L0 := by omega
        have l1 : L0 ≤ 102 := by omega
        have hwr : IntKind.u8.wrap (IntKind.u8.wrap (L0 - 97) + 10) = L0 - 87 := by
          rw [IntKind.wrap_u8, IntKind.wrap_u8]
          omega
        clear hdec hacc ha hd hd16 hdv hb hL0 hdig h10
        go_wp2_with (go_at_fn (ρ.f 19); refine hlow.mono ?_; rintro e w' ⟨rfl, rfl⟩)
        refine ⟨⟨k + 1, acc * 16 + d, a * 16 + (L0 - 87), rfl, (by first | rfl | (congr 1; omega)), (by first | rfl | (congr 1; omega)), by omega, HN⟩, by simp [intOf]; omega⟩
    · have hkk : k = t.size := by omega
      subst hkk
      rw [List.drop_eq_nil_of_le (by omega)] at hdec
      obtain rfl : acc = u := by simpa [hexM] using hdec
      subst ha
      clear hacc a0
      go_wp2
      go_ret2
      exact ⟨rfl, rfl⟩
set_option maxHeartbeats 4000000 in
set_option maxRecDepth 100000 in
/-- strconv.ParseUint(s, 16, 8), s two hexadecimal digits: their number, and no error. -/
theorem outer (L : LaysPu.n14 P ρ) (s : ByteArray) (h2 : s.size = 2) (u : Nat) (h : hexM 0 s.data.toList = some u) (w : World) :
    Calls P (ρ.f 14) #[.string s, .int .i64 16, .int .i64 8] w fun e w' => e = .returned (.tuple #[.int .u64 u, .nilIface]) ∧ w' = Lib.bytesWorld w (ρ.t 5) s := by
  have mixed := L.mixed
  have t9 := L.t9; have a9 := L.a9; have z9 := L.z9; have v9 := L.v9
  have t3 := L.t3; have a3 := L.a3; have z3 := L.z3; have v3 := L.v3
  have t22 := L.t22; have a22 := L.a22; have z22 := L.z22; have v22 := L.v22
  have t24 := L.t24; have a24 := L.a24; have z24 := L.z24; have v24 := L.v24
  have t25 := L.t25; have a25 := L.a25; have z25 := L.z25; have v25 := L.v25
  have t4 := L.t4; have a4 := L.a4; have z4 := L.z4; have v4 := L.v4
  have e16 : ∀ args w, (callFunc (ρ.f 16) args).run P w = .ok (.enter (ρ.f 16) args) w := enters_of L.f16 (by kernel_rfl) rfl
  have hI := inner (P := P) (ρ := ρ) { L with } s h2 u h w
  clear h
  go_enter L.f14, BodyPu.n14_ntmps ρ
  go_wp2_with (go_at_fn (ρ.f 16); refine hI.mono ?_; rintro e W1 ⟨rfl, rfl⟩)
  go_wp2
  go_ret2
  exact ⟨rfl, rfl⟩
end Go.Proofs.YtfoijdahgkngpaaDoor.Pu16
