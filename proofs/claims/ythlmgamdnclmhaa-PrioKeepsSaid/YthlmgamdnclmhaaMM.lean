/- Plain: the division of 128 digits by 64. -/
import Derived.Test.YthlmgamdnclmhaaRx
import Derived.Lib.ItoaNum
namespace Go.Proofs.Ythlmgamdnclmhaa.M
open Go Go.RowKit Go.Proofs.YthlmgamdnclmhaaW.PrintWords Go.Proofs.YthlmgamdnclmhaaW.PrintLast Go.Proofs.YthlmgamdnclmhaaW.PrintMore Go.Proofs.Ythlmgamdnclmhaa.R
set_option linter.unusedVariables false

theorem w64 {x : Int} (h0 : 0 ≤ x) (h1 : x < 18446744073709551616) : IntKind.u64.wrap x = x := by
  rw [IntKind.wrap_u64]; omega

/-- What both correcting loops come to: the digit. -/
structure DivIn (Y yh yl U u1 : Int) : Prop where
  hY : Y = yh * 4294967296 + yl
  l0 : 0 ≤ yl
  l1 : yl < 4294967296
  h0 : 2147483648 ≤ yh
  h1 : yh < 4294967296
  U0 : 0 ≤ U
  U1 : U < Y
  u0 : 0 ≤ u1
  u1' : u1 < 4294967296

variable {Y yh yl U u1 : Int}
theorem DivIn.Ypos (h : DivIn Y yh yl U u1) : 0 < Y := by have := h.hY; have := h.l0; have := h.h0; omega
theorem DivIn.Qlt (h : DivIn Y yh yl U u1) : (U * 4294967296 + u1) / Y < 4294967296 := by
  apply Int.ediv_lt_of_lt_mul h.Ypos
  have := h.U1; have := h.u1'
  omega
theorem DivIn.Q0 (h : DivIn Y yh yl U u1) : 0 ≤ (U * 4294967296 + u1) / Y := Int.ediv_nonneg (by have := h.U0; have := h.u0; omega) (Int.le_of_lt h.Ypos)
theorem DivIn.le_Q (h : DivIn Y yh yl U u1) {q rh : Int} (e : q * yh + rh = U) (hc : q * yl ≤ 4294967296 * rh + u1) : q ≤ (U * 4294967296 + u1) / Y := by
  apply Int.le_ediv_of_mul_le h.Ypos
  rw [h.hY, Int.mul_add, ← Int.mul_assoc]
  have : U * 4294967296 = q * yh * 4294967296 + rh * 4294967296 := by rw [← e, Int.add_mul]
  omega
theorem DivIn.lt_Q (h : DivIn Y yh yl U u1) {q rh : Int} (e : q * yh + rh = U) (hc : 4294967296 * rh + u1 < q * yl) : (U * 4294967296 + u1) / Y < q := by
  apply Int.ediv_lt_of_lt_mul h.Ypos
  rw [h.hY, Int.mul_add, ← Int.mul_assoc]
  have : U * 4294967296 = q * yh * 4294967296 + rh * 4294967296 := by rw [← e, Int.add_mul]
  omega

/-- The first digit's loop. -/
theorem loop1 (h : DivIn Y yh yl U u1) (s u0 : Int) (r : Int × Int)
    (hr : Ev (fun k => bits_Div64.j2 k Y s yh yl U u1 u0 ((U * 4294967296 + u1) / Y)) r) (n : Nat) :
    ∀ q rh : Int, q - (U * 4294967296 + u1) / Y ≤ n → (U * 4294967296 + u1) / Y ≤ q → q ≤ 4294967297 → 0 ≤ rh → rh < 4294967296 → q * yh + rh = U →
      Ev (fun k => bits_Div64.l0 k Y s yh yl U u1 u0 q rh) r := by
  have hQ0 := h.Q0
  have hQ1 := h.Qlt
  have hle := fun {q rh : Int} => h.le_Q (q := q) (rh := rh)
  have hlt := fun {q rh : Int} => h.lt_Q (q := q) (rh := rh)
  have l0 := h.l0
  have l1 := h.l1
  have h0 := h.h0
  have h1 := h.h1
  have u0' := h.u0
  have u1' := h.u1'
  generalize (U * 4294967296 + u1) / Y = Q at *
  have fin : ∀ q rh : Int, q = Q → Ev (fun k => bits_Div64.j1 k Y s yh yl U u1 u0 q rh false) r := fun q rh e => by
    subst e
    exact Ev.step (fun k => by simp only [bits_Div64.j1]; rfl) hr
  induction n with
  | zero =>
    intro q rh hn hq hq2 hr0 hr1 he
    obtain rfl : q = Q := by omega
    refine Ev.step (f := fun k => bits_Div64.j1 k Y s yh yl U u1 u0 q rh false) (fun k => ?_) (fin _ _ rfl)
    simp only [bits_Div64.l0]
    rw [if_neg (by omega)]
    have hq3 : q * yl ≤ 4294967296 * rh + u1 := by
      apply Int.not_lt.1
      intro hc
      have := hlt he hc
      omega
    have hb : 0 ≤ q * yl := Int.mul_nonneg hQ0 l0
    rw [w64 hb (by omega), w64 (x := 4294967296 * rh) (by omega) (by omega), w64 (by omega) (by omega)]
    rw [decide_eq_false (by omega)]
  | succ n ih =>
    intro q rh hn hq hq2 hr0 hr1 he
    by_cases hc : q ≥ 4294967296 ∨ 4294967296 * rh + u1 < q * yl
    · have hgt : Q < q := by
        rcases hc with hc | hc
        · omega
        · exact hlt he hc
      have e' : (q - 1) * yh + (rh + yh) = U := by rw [Int.sub_mul]; omega
      have key : Ev (fun k => bits_Div64.j1 k Y s yh yl U u1 u0 q rh true) r := by
        by_cases hb : rh + yh ≥ 4294967296
        · have hq1 : q - 1 = Q := by
            apply Int.le_antisymm _ (by omega)
            apply hle e'
            have : (q - 1) * yl ≤ 4294967296 * 4294967295 := Int.mul_le_mul (by omega) (by omega) l0 (by omega)
            omega
          refine Ev.step (f := fun k => bits_Div64.j2 k Y s yh yl U u1 u0 Q) (fun k => ?_) hr
          simp only [bits_Div64.j1, if_true]
          rw [w64 (x := rh + yh) (by omega) (by omega), if_pos hb, w64 (x := q - 1) (by omega) (by omega), hq1]
        · refine Ev.step (f := fun k => bits_Div64.l0 k Y s yh yl U u1 u0 (q - 1) (rh + yh)) (fun k => ?_) (ih (q - 1) (rh + yh) (by omega) (by omega) (by omega) (by omega) (by omega) e')
          simp only [bits_Div64.j1, if_true]
          rw [w64 (x := rh + yh) (by omega) (by omega), if_neg hb, w64 (x := q - 1) (by omega) (by omega)]
      refine Ev.step (f := fun k => bits_Div64.j1 k Y s yh yl U u1 u0 q rh true) (fun k => ?_) key
      simp only [bits_Div64.l0]
      by_cases hb : q ≥ 4294967296
      · rw [if_pos hb]
      · rw [if_neg hb]
        have hc : 4294967296 * rh + u1 < q * yl := hc.resolve_left hb
        have hb1 : q * yl ≤ 4294967295 * 4294967295 := Int.mul_le_mul (by omega) (by omega) l0 (by omega)
        rw [w64 (x := q * yl) (by omega) (by omega), w64 (x := 4294967296 * rh) (by omega) (by omega), w64 (by omega) (by omega)]
        rw [decide_eq_true (by omega)]
    · have hq3 : q * yl ≤ 4294967296 * rh + u1 := by omega
      have hqQ : q = Q := Int.le_antisymm (hle he hq3) hq
      refine Ev.step (f := fun k => bits_Div64.j1 k Y s yh yl U u1 u0 q rh false) (fun k => ?_) (fin _ _ hqQ)
      simp only [bits_Div64.l0]
      rw [if_neg (by omega)]
      have hb : 0 ≤ q * yl := Int.mul_nonneg (by omega) l0
      rw [w64 hb (by omega), w64 (x := 4294967296 * rh) (by omega) (by omega), w64 (by omega) (by omega)]
      rw [decide_eq_false (by omega)]

/-- The second digit's loop. -/
theorem loop2 (h : DivIn Y yh yl U u1) (s q1 : Int) (hs : 0 ≤ s) (n : Nat) :
    ∀ q rh : Int, q - (U * 4294967296 + u1) / Y ≤ n → (U * 4294967296 + u1) / Y ≤ q → q ≤ 4294967297 → 0 ≤ rh → rh < 4294967296 → q * yh + rh = U →
      Ev (fun k => bits_Div64.l1 k Y s yh yl u1 q1 rh U q)
        (IntKind.u64.wrap ((IntKind.u64.wrap (q1 * 4294967296)) + (U * 4294967296 + u1) / Y), shr .u64 (IntKind.u64.wrap ((IntKind.u64.wrap ((IntKind.u64.wrap (U * 4294967296)) + u1)) - (IntKind.u64.wrap (((U * 4294967296 + u1) / Y) * Y)))) s) := by
  have hQ0 := h.Q0
  have hQ1 := h.Qlt
  have hle := fun {q rh : Int} => h.le_Q (q := q) (rh := rh)
  have hlt := fun {q rh : Int} => h.lt_Q (q := q) (rh := rh)
  have l0 := h.l0
  have l1 := h.l1
  have h0 := h.h0
  have h1 := h.h1
  have u0' := h.u0
  have u1' := h.u1'
  generalize (U * 4294967296 + u1) / Y = Q at *
  have fin : ∀ q rh : Int, q = Q → Ev (fun k => bits_Div64.j4 k Y s yh yl u1 q1 rh U q false) (IntKind.u64.wrap ((IntKind.u64.wrap (q1 * 4294967296)) + Q), shr .u64 (IntKind.u64.wrap ((IntKind.u64.wrap ((IntKind.u64.wrap (U * 4294967296)) + u1)) - (IntKind.u64.wrap (Q * Y)))) s) := fun q rh e => by
    subst e
    refine Ev.step (f := fun _ => some _) (fun k => ?_) (Ev.now _)
    simp only [bits_Div64.j4]
    rw [if_neg (by simp), if_pos hs]
  induction n with
  | zero =>
    intro q rh hn hq hq2 hr0 hr1 he
    obtain rfl : q = Q := by omega
    refine Ev.step (f := fun k => bits_Div64.j4 k Y s yh yl u1 q1 rh U q false) (fun k => ?_) (fin _ _ rfl)
    simp only [bits_Div64.l1]
    rw [if_neg (by omega)]
    have hq3 : q * yl ≤ 4294967296 * rh + u1 := by
      apply Int.not_lt.1
      intro hc
      have := hlt he hc
      omega
    have hb : 0 ≤ q * yl := Int.mul_nonneg hQ0 l0
    rw [w64 hb (by omega), w64 (x := 4294967296 * rh) (by omega) (by omega), w64 (by omega) (by omega)]
    rw [decide_eq_false (by omega)]
  | succ n ih =>
    intro q rh hn hq hq2 hr0 hr1 he
    by_cases hc : q ≥ 4294967296 ∨ 4294967296 * rh + u1 < q * yl
    · have hgt : Q < q := by
        rcases hc with hc | hc
        · omega
        · exact hlt he hc
      have e' : (q - 1) * yh + (rh + yh) = U := by rw [Int.sub_mul]; omega
      have key : Ev (fun k => bits_Div64.j4 k Y s yh yl u1 q1 rh U q true) (IntKind.u64.wrap ((IntKind.u64.wrap (q1 * 4294967296)) + Q), shr .u64 (IntKind.u64.wrap ((IntKind.u64.wrap ((IntKind.u64.wrap (U * 4294967296)) + u1)) - (IntKind.u64.wrap (Q * Y)))) s) := by
        by_cases hb : rh + yh ≥ 4294967296
        · have hq1 : q - 1 = Q := by
            apply Int.le_antisymm _ (by omega)
            apply hle e'
            have : (q - 1) * yl ≤ 4294967296 * 4294967295 := Int.mul_le_mul (by omega) (by omega) l0 (by omega)
            omega
          refine Ev.step (f := fun _ => some _) (fun k => ?_) (Ev.now _)
          simp only [bits_Div64.j4, if_true]
          rw [w64 (x := rh + yh) (by omega) (by omega), if_pos hb, w64 (x := q - 1) (by omega) (by omega), hq1, if_pos hs]
        · refine Ev.step (f := fun k => bits_Div64.l1 k Y s yh yl u1 q1 (rh + yh) U (q - 1)) (fun k => ?_) (ih (q - 1) (rh + yh) (by omega) (by omega) (by omega) (by omega) (by omega) e')
          simp only [bits_Div64.j4, if_true]
          rw [w64 (x := rh + yh) (by omega) (by omega), if_neg hb, w64 (x := q - 1) (by omega) (by omega)]
      refine Ev.step (f := fun k => bits_Div64.j4 k Y s yh yl u1 q1 rh U q true) (fun k => ?_) key
      simp only [bits_Div64.l1]
      by_cases hb : q ≥ 4294967296
      · rw [if_pos hb]
      · rw [if_neg hb]
        have hc : 4294967296 * rh + u1 < q * yl := hc.resolve_left hb
        have hb1 : q * yl ≤ 4294967295 * 4294967295 := Int.mul_le_mul (by omega) (by omega) l0 (by omega)
        rw [w64 (x := q * yl) (by omega) (by omega), w64 (x := 4294967296 * rh) (by omega) (by omega), w64 (by omega) (by omega)]
        rw [decide_eq_true (by omega)]
    · have hq3 : q * yl ≤ 4294967296 * rh + u1 := by omega
      have hqQ : q = Q := Int.le_antisymm (hle he hq3) hq
      refine Ev.step (f := fun k => bits_Div64.j4 k Y s yh yl u1 q1 rh U q false) (fun k => ?_) (fin _ _ hqQ)
      simp only [bits_Div64.l1]
      rw [if_neg (by omega)]
      have hb : 0 ≤ q * yl := Int.mul_nonneg (by omega) l0
      rw [w64 hb (by omega), w64 (x := 4294967296 * rh) (by omega) (by omega), w64 (by omega) (by omega)]
      rw [decide_eq_false (by omega)]
end Go.Proofs.Ythlmgamdnclmhaa.M

namespace Go.Proofs.Ythlmgamdnclmhaa.M
open Go Go.RowKit Go.Proofs.YthlmgamdnclmhaaW.PrintWords Go.Proofs.YthlmgamdnclmhaaW.PrintLast Go.Proofs.YthlmgamdnclmhaaW.PrintMore Go.Proofs.Ythlmgamdnclmhaa.R
set_option linter.unusedVariables false

theorem and_mask (x : Int) (h0 : 0 ≤ x) (h1 : x < 18446744073709551616) : Go.bits .and .u64 x 4294967295 = x % 4294967296 := by
  rw [u64_and x 4294967295 h0 h1 (by decide) (by decide)]
  have : (4294967295 : Int).toNat = 2 ^ 32 - 1 := by decide
  rw [this, Nat.and_two_pow_sub_one_eq_mod]
  omega

theorem bitLen_bd (y : Nat) (h0 : y ≠ 0) (h : y < 2 ^ 64) : 1 ≤ Lib.bitLen y ∧ Lib.bitLen y ≤ 64 ∧ 2 ^ (Lib.bitLen y - 1) ≤ y ∧ y < 2 ^ Lib.bitLen y := by
  obtain ⟨h1, h2, h3⟩ := Lib.bitLenAux_bounds 64 y h h0
  refine ⟨h1, ?_, h2, h3⟩
  apply Nat.le_of_not_lt
  intro hc
  have : 2 ^ 64 ≤ 2 ^ (Lib.bitLenAux 64 y - 1) := Nat.pow_le_pow_right (by decide) (by unfold Lib.bitLen at hc; omega)
  omega

theorem shl_nat (x s : Nat) (hs : s ≤ 64) : shl .u64 (x : Int) (s : Int) = ((x * 2 ^ s % 18446744073709551616 : Nat) : Int) := by
  unfold shl
  rw [Int.toNat_natCast, Nat.min_eq_left (show s ≤ IntKind.u64.bits from hs), IntKind.wrap_u64]
  simp
theorem shr_nat (x s : Nat) (hs : s ≤ 64) : shr .u64 (x : Int) (s : Int) = ((x / 2 ^ s : Nat) : Int) := by
  unfold shr
  rw [Int.toNat_natCast, Nat.min_eq_left (show s ≤ IntKind.u64.bits from hs)]
  simp

/-- The dividend, shifted so that the divisor is normal. -/
theorem norm_eq (hi lo s : Nat) (hs : s ≤ 64) : (hi * 18446744073709551616 + lo) * 2 ^ s = (hi * 2 ^ s + lo / 2 ^ (64 - s)) * 18446744073709551616 + lo * 2 ^ s % 18446744073709551616 := by
  have e : (18446744073709551616 : Nat) = 2 ^ (64 - s) * 2 ^ s := by rw [← Nat.pow_add]; rw [show 64 - s + s = 64 by omega]
  have hd : lo / 2 ^ (64 - s) = lo * 2 ^ s / 18446744073709551616 := by rw [e, Nat.mul_div_mul_right _ _ (Nat.two_pow_pos s)]
  rw [hd, Nat.add_mul (hi * 2 ^ s), Nat.add_assoc, Nat.mul_comm (lo * 2 ^ s / 18446744073709551616), Nat.div_add_mod, Nat.add_mul, Nat.mul_right_comm]

theorem or_parts (hi lo s : Nat) (hs : s ≤ 64) (h1 : hi * 2 ^ s < 18446744073709551616) (hlo : lo < 18446744073709551616) :
    Go.bits .or .u64 ((hi * 2 ^ s : Nat) : Int) ((lo / 2 ^ (64 - s) : Nat) : Int) = ((hi * 2 ^ s + lo / 2 ^ (64 - s) : Nat) : Int) := by
  have hlt : lo / 2 ^ (64 - s) < 2 ^ s := by
    rw [Nat.div_lt_iff_lt_mul (Nat.two_pow_pos _), ← Nat.pow_add, show s + (64 - s) = 64 by omega]
    exact hlo
  rw [bits_or_u64_nat _ _ h1 (Nat.lt_of_le_of_lt (Nat.div_le_self _ _) hlo)]
  have := Nat.shiftLeft_add_eq_or_of_lt hlt hi
  rw [Nat.shiftLeft_eq] at this
  rw [← this]

set_option maxRecDepth 100000 in
/-- DIV64: of a number of 128 digits by another one that is greater than its greater part. -/
theorem Div64_f (hi lo y : Nat) (h : hi < y) (hy : y < 18446744073709551616) (hlo : lo < 18446744073709551616) :
    Ev (fun k => bits_Div64.f k hi lo y) ((((hi * 18446744073709551616 + lo) / y : Nat) : Int), (((hi * 18446744073709551616 + lo) % y : Nat) : Int)) := by
  by_cases h0 : hi = 0
  · subst h0
    refine Ev.congr (f := fun _ => some _) (fun k => ?_) (Ev.now _)
    unfold bits_Div64.f
    rw [if_neg (by omega), if_neg (by omega), if_pos (by rfl)]
    have e1 : Int.tdiv (lo : Int) (y : Int) = ((lo / y : Nat) : Int) := by rw [Int.tdiv_eq_ediv_of_nonneg (by omega)]; simp
    have e2 : Int.tmod (lo : Int) (y : Int) = ((lo % y : Nat) : Int) := by rw [Int.tmod_eq_emod_of_nonneg (by omega)]; simp
    have hb : lo / y ≤ lo := Nat.div_le_self _ _
    rw [e1, e2, w64 (Int.natCast_nonneg _) (by have := Int.ofNat_le.2 hb; omega)]
    simp
  · obtain ⟨b1, b2, b3, b4⟩ := bitLen_bd y (by omega) (by simpa using hy)
    obtain ⟨s, hs⟩ : ∃ s, 64 = Lib.bitLen y + s := ⟨64 - Lib.bitLen y, by omega⟩
    have hlz : bits_LeadingZeros64.f (y : Int) = some (s : Int) := by
      unfold bits_LeadingZeros64.f
      rw [if_pos ⟨by omega, by omega⟩, Int.toNat_natCast]
      congr 1; omega
    have hYlt : y * 2 ^ s < 18446744073709551616 := by
      have : y * 2 ^ s < 2 ^ Lib.bitLen y * 2 ^ s := Nat.mul_lt_mul_of_pos_right b4 (Nat.two_pow_pos s)
      rw [← Nat.pow_add, ← hs] at this
      simpa using this
    have hYge : 9223372036854775808 ≤ y * 2 ^ s := by
      have : 2 ^ (Lib.bitLen y - 1) * 2 ^ s ≤ y * 2 ^ s := Nat.mul_le_mul_right _ b3
      rw [← Nat.pow_add, show Lib.bitLen y - 1 + s = 63 by omega] at this
      simpa using this
    have hUY : hi * 2 ^ s + lo / 2 ^ (64 - s) < y * 2 ^ s := by
      have hlt : lo / 2 ^ (64 - s) < 2 ^ s := by
        rw [Nat.div_lt_iff_lt_mul (Nat.two_pow_pos _), ← Nat.pow_add, show s + (64 - s) = 64 by omega]
        exact hlo
      have : (hi + 1) * 2 ^ s ≤ y * 2 ^ s := Nat.mul_le_mul_right _ h
      rw [Nat.add_mul] at this
      omega
    have hiY : hi * 2 ^ s < 18446744073709551616 := Nat.lt_of_le_of_lt (Nat.le_add_right _ (lo / 2 ^ (64 - s))) (Nat.lt_trans hUY hYlt)
    have hor := or_parts hi lo s (by omega) hiY hlo
    have hne := norm_eq hi lo s (by omega)
    have hsy : shl .u64 (y : Int) (s : Int) = ((y * 2 ^ s : Nat) : Int) := by rw [shl_nat _ _ (by omega), Nat.mod_eq_of_lt hYlt]
    have hsh : shl .u64 (hi : Int) (s : Int) = ((hi * 2 ^ s : Nat) : Int) := by rw [shl_nat _ _ (by omega), Nat.mod_eq_of_lt hiY]
    have hsl : shl .u64 (lo : Int) (s : Int) = ((lo * 2 ^ s % 18446744073709551616 : Nat) : Int) := shl_nat _ _ (by omega)
    have hsr : shr .u64 (lo : Int) (64 - (s : Int)) = ((lo / 2 ^ (64 - s) : Nat) : Int) := by
      rw [show (64 - (s : Int)) = ((64 - s : Nat) : Int) by omega, shr_nat _ _ (by omega)]
    have hp := Nat.two_pow_pos s
    have hun : lo * 2 ^ s % 18446744073709551616 < 18446744073709551616 := Nat.mod_lt _ (by decide)
    unfold bits_Div64.f
    rw [hlz]
    have hpush : ((y * 2 ^ s : Nat) : Int) = ((y * 2 ^ s : Nat) : Int) := rfl
    generalize hW : lo * 2 ^ s % 18446744073709551616 = W at *
    generalize hU : hi * 2 ^ s + lo / 2 ^ (64 - s) = U at *
    generalize hY : y * 2 ^ s = Y at *
    have hD : DivIn (Y : Int) ((Y : Int) / 4294967296) ((Y : Int) % 4294967296) (U : Int) ((W : Int) / 4294967296) := ⟨by omega, by omega, by omega, by omega, by omega, by omega, by omega, by omega, by omega⟩
    -- the rest behind the first digit
    obtain ⟨R1, hR1⟩ : ∃ R1 : Int, R1 = (U : Int) * 4294967296 + (W : Int) / 4294967296 - ((U : Int) * 4294967296 + (W : Int) / 4294967296) / (Y : Int) * (Y : Int) := ⟨_, rfl⟩
    have hR1' : R1 = ((U : Int) * 4294967296 + (W : Int) / 4294967296) % (Y : Int) := by rw [hR1, Int.emod_def, Int.mul_comm (Y : Int)]
    have hYp : (0 : Int) < Y := by omega
    have hR0 : 0 ≤ R1 := by rw [hR1']; exact Int.emod_nonneg _ (by omega)
    have hRY : R1 < Y := by rw [hR1']; exact Int.emod_lt_of_pos _ hYp
    have hD2 : DivIn (Y : Int) ((Y : Int) / 4294967296) ((Y : Int) % 4294967296) R1 ((W : Int) % 4294967296) := ⟨by omega, by omega, by omega, by omega, by omega, hR0, hRY, by omega, by omega⟩
    have hQ0 := hD.Q0
    have hQ1 := hD.Qlt
    obtain ⟨Q, hQ⟩ : ∃ Q : Int, Q = ((U : Int) * 4294967296 + (W : Int) / 4294967296) / (Y : Int) := ⟨_, rfl⟩
    rw [← hQ] at hQ0 hQ1 hR1
    have hQY : Q * Y ≤ (U : Int) * 4294967296 + (W : Int) / 4294967296 := by omega
    have hQY0 : 0 ≤ Q * (Y : Int) := Int.mul_nonneg hQ0 (by omega)
    -- what un21 is, as Go reckons it
    have hun21 : IntKind.u64.wrap ((IntKind.u64.wrap ((IntKind.u64.wrap ((U : Int) * 4294967296)) + (W : Int) / 4294967296)) - (IntKind.u64.wrap (Q * Y))) = R1 := by
      simp only [IntKind.wrap_u64]
      generalize Q * (Y : Int) = T at *
      omega
    have hP0 := hD2.Q0
    have hP1 := hD2.Qlt
    have l2 := loop2 hD2 (s : Int) Q (by omega) ((R1 / ((Y : Int) / 4294967296)).toNat + 1) (R1 / ((Y : Int) / 4294967296)) (R1 - R1 / ((Y : Int) / 4294967296) * ((Y : Int) / 4294967296))
    have hyh : (0 : Int) < (Y : Int) / 4294967296 := by omega
    have hdiv : ∀ Z : Int, 0 ≤ Z → Z < Y → 0 ≤ Z / ((Y : Int) / 4294967296) ∧ Z / ((Y : Int) / 4294967296) ≤ 4294967297 ∧ 0 ≤ Z - Z / ((Y : Int) / 4294967296) * ((Y : Int) / 4294967296) ∧ Z - Z / ((Y : Int) / 4294967296) * ((Y : Int) / 4294967296) < 4294967296 := by
      intro Z hz0 hz1
      have e := Int.emod_def Z ((Y : Int) / 4294967296)
      have e1 := Int.emod_nonneg Z (b := (Y : Int) / 4294967296) (by omega)
      have e2 := Int.emod_lt_of_pos Z hyh
      rw [Int.mul_comm] at e
      refine ⟨Int.ediv_nonneg hz0 (by omega), ?_, by omega, by omega⟩
      apply Int.le_of_lt_add_one
      apply Int.ediv_lt_of_lt_mul hyh
      omega
    have hge : ∀ Z v : Int, 0 ≤ Z → Z < Y → 0 ≤ v → v < 4294967296 → (Z * 4294967296 + v) / (Y : Int) ≤ Z / ((Y : Int) / 4294967296) := by
      intro Z v hz0 hz1 hv0 hv1
      apply Int.le_of_lt_add_one
      apply Int.ediv_lt_of_lt_mul hYp
      have e2 := Int.emod_lt_of_pos Z hyh
      have e := Int.mul_ediv_add_emod Z ((Y : Int) / 4294967296)
      have hq0 := Int.ediv_nonneg hz0 (Int.le_of_lt hyh)
      have hYs : (Y : Int) = (Y : Int) / 4294967296 * 4294967296 + (Y : Int) % 4294967296 := by omega
      generalize Z / ((Y : Int) / 4294967296) = q at *
      generalize Z % ((Y : Int) / 4294967296) = m at *
      have e3 : (q + 1) * (Y : Int) = ((Y : Int) / 4294967296 * q) * 4294967296 + (Y : Int) / 4294967296 * 4294967296 + (q + 1) * ((Y : Int) % 4294967296) := by
        have : (q + 1) * (Y : Int) = (q + 1) * ((Y : Int) / 4294967296 * 4294967296 + (Y : Int) % 4294967296) := by rw [← hYs]
        rw [this, Int.mul_add, ← Int.mul_assoc, Int.add_mul q 1 ((Y : Int) / 4294967296), Int.add_mul, Int.mul_comm q, Int.one_mul]
      have e4 : 0 ≤ (q + 1) * ((Y : Int) % 4294967296) := Int.mul_nonneg (by omega) (by omega)
      rw [e3]
      generalize (Y : Int) / 4294967296 * q = A at *
      generalize (q + 1) * ((Y : Int) % 4294967296) = C at *
      omega
    obtain ⟨d1, d2, d3, d4⟩ := hdiv R1 hR0 hRY
    have l2 := l2 (by omega) (hge R1 _ hR0 hRY (by omega) (by omega)) d2 d3 d4 (by omega)
    -- the second quotient, under a name
    obtain ⟨P, hP⟩ : ∃ P : Int, P = (R1 * 4294967296 + (W : Int) % 4294967296) / (Y : Int) := ⟨_, rfl⟩
    have hR2 : R1 * 4294967296 + (W : Int) % 4294967296 - P * Y = (R1 * 4294967296 + (W : Int) % 4294967296) % (Y : Int) := by
      have hE : ∀ N : Int, N - N / (Y : Int) * Y = N % (Y : Int) := fun N => by rw [Int.emod_def, Int.mul_comm (Y : Int)]
      rw [hP]; exact hE _
    have hR20 : 0 ≤ (R1 * 4294967296 + (W : Int) % 4294967296) % (Y : Int) := Int.emod_nonneg _ (by omega)
    have hR2Y : (R1 * 4294967296 + (W : Int) % 4294967296) % (Y : Int) < Y := Int.emod_lt_of_pos _ hYp
    rw [← hP] at l2 hP0 hP1
    obtain ⟨R2, hR2'⟩ : ∃ R2 : Int, R2 = (R1 * 4294967296 + (W : Int) % 4294967296) % (Y : Int) := ⟨_, rfl⟩
    rw [← hR2'] at hR2 hR20 hR2Y
    have hPY0 : 0 ≤ P * (Y : Int) := Int.mul_nonneg hP0 (by omega)
    have hfin : IntKind.u64.wrap ((IntKind.u64.wrap ((IntKind.u64.wrap (R1 * 4294967296)) + (W : Int) % 4294967296)) - (IntKind.u64.wrap (P * Y))) = R2 := by
      simp only [IntKind.wrap_u64]
      generalize P * (Y : Int) = T at *
      omega
    have hqq : IntKind.u64.wrap ((IntKind.u64.wrap (Q * 4294967296)) + P) = Q * 4294967296 + P := by
      simp only [IntKind.wrap_u64]; omega
    rw [hfin, hqq] at l2
    -- the whole
    have hall : (((hi * 18446744073709551616 + lo) * 2 ^ s : Nat) : Int) = (Q * 4294967296 + P) * Y + R2 := by
      rw [hne]
      have : (Q * 4294967296 + P) * (Y : Int) = Q * Y * 4294967296 + P * Y := by rw [Int.add_mul, Int.mul_right_comm]
      rw [this]
      generalize Q * (Y : Int) = T at *
      generalize P * (Y : Int) = T2 at *
      omega
    obtain ⟨q, hq⟩ : ∃ q : Nat, (q : Int) = Q * 4294967296 + P := ⟨(Q * 4294967296 + P).toNat, by omega⟩
    obtain ⟨r2, hr2⟩ : ∃ r2 : Nat, (r2 : Int) = R2 := ⟨R2.toNat, by omega⟩
    have hnat : (hi * 18446744073709551616 + lo) * 2 ^ s = q * Y + r2 := by
      have : (((hi * 18446744073709551616 + lo) * 2 ^ s : Nat) : Int) = ((q * Y + r2 : Nat) : Int) := by
        rw [hall, ← hq, ← hr2]; simp
      exact Int.ofNat_inj.1 this
    have hr2Y : r2 < Y := by omega
    have hr2d : 2 ^ s ∣ r2 := by
      have h1 : 2 ^ s ∣ (hi * 18446744073709551616 + lo) * 2 ^ s := Nat.dvd_mul_left _ _
      have h2 : 2 ^ s ∣ q * Y := by rw [← hY]; exact Nat.dvd_trans (Nat.dvd_mul_left _ _) (Nat.dvd_mul_left _ _)
      rw [hnat] at h1
      exact (Nat.dvd_add_right h2).1 h1
    obtain ⟨t, ht⟩ := hr2d
    have hty : t < y := by
      have : 2 ^ s * t < 2 ^ s * y := by rw [← ht, Nat.mul_comm _ y, hY]; exact hr2Y
      exact Nat.lt_of_mul_lt_mul_left this
    have hN : hi * 18446744073709551616 + lo = y * q + t := by
      apply Nat.eq_of_mul_eq_mul_right hp
      rw [hnat, ht, ← hY, Nat.add_mul, Nat.mul_comm (2 ^ s) t, ← Nat.mul_assoc, Nat.mul_comm q y]
    have hdivq : (hi * 18446744073709551616 + lo) / y = q := by rw [hN, Nat.mul_add_div (by omega), Nat.div_eq_of_lt hty]; rfl
    have hmodq : (hi * 18446744073709551616 + lo) % y = t := by rw [hN, Nat.mul_add_mod, Nat.mod_eq_of_lt hty]
    have hshr : shr .u64 R2 (s : Int) = (t : Int) := by
      rw [← hr2, shr_nat _ _ (by omega), ht, Nat.mul_div_cancel_left _ hp]
    rw [hshr, ← hq] at l2
    rw [hdivq, hmodq]
    -- from the top
    have e1 : Int.tdiv R1 ((Y : Int) / 4294967296) = R1 / ((Y : Int) / 4294967296) := Int.tdiv_eq_ediv_of_nonneg hR0
    have e2 : Int.tdiv (U : Int) ((Y : Int) / 4294967296) = (U : Int) / ((Y : Int) / 4294967296) := Int.tdiv_eq_ediv_of_nonneg (by omega)
    obtain ⟨f1, f2, f3, f4⟩ := hdiv (U : Int) (by omega) (by omega)
    have hj2 : Ev (fun k => bits_Div64.j2 k (Y : Int) (s : Int) ((Y : Int) / 4294967296) ((Y : Int) % 4294967296) (U : Int) ((W : Int) / 4294967296) ((W : Int) % 4294967296) Q) ((q : Int), (t : Int)) := by
      refine Ev.step (f := fun k => bits_Div64.l1 k (Y : Int) (s : Int) ((Y : Int) / 4294967296) ((Y : Int) % 4294967296) ((W : Int) % 4294967296) Q (R1 - R1 / ((Y : Int) / 4294967296) * ((Y : Int) / 4294967296)) R1 (R1 / ((Y : Int) / 4294967296))) (fun k => ?_) l2
      simp only [bits_Div64.j2]
      rw [if_neg (by omega), hun21, e1, w64 (x := R1 / ((Y : Int) / 4294967296)) d1 (by omega)]
      have b1 : 0 ≤ R1 / ((Y : Int) / 4294967296) * ((Y : Int) / 4294967296) := Int.mul_nonneg d1 (by omega)
      rw [w64 b1 (by omega), w64 d3 (by omega)]
    rw [hQ] at hj2
    have l1 := loop1 hD (s : Int) ((W : Int) % 4294967296) ((q : Int), (t : Int)) hj2 (((U : Int) / ((Y : Int) / 4294967296)).toNat + 1) ((U : Int) / ((Y : Int) / 4294967296)) ((U : Int) - (U : Int) / ((Y : Int) / 4294967296) * ((Y : Int) / 4294967296)) (by rw [hQ] at hQ0; omega) (hge _ _ (by omega) (by omega) (by omega) (by omega)) f2 f3 f4 (by omega)
    refine Ev.congr (fun k => ?_) l1
    rw [if_neg (by omega), if_neg (by omega), if_neg (by omega)]
    simp only [Option.bind_some]
    rw [w64 (x := (s : Int)) (by omega) (by omega), if_pos (by omega), w64 (x := 64 - (s : Int)) (by omega) (by omega), if_pos (by omega)]
    rw [hsy, hsh, hsl, hsr, hor, and_mask _ (by omega) (by omega), and_mask _ (by omega) (by omega), e2]
    rw [if_neg (by omega), w64 (x := (U : Int) / ((Y : Int) / 4294967296)) f1 (by omega)]
    have b1 : 0 ≤ (U : Int) / ((Y : Int) / 4294967296) * ((Y : Int) / 4294967296) := Int.mul_nonneg f1 (by omega)
    rw [w64 b1 (by omega), w64 f3 (by omega)]
end Go.Proofs.Ythlmgamdnclmhaa.M
