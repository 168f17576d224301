/- What is called and not printed, part 1: LeadingZeros64, times, next: each as a function on numbers, with its contract. -/
import Derived.Test.YthlmgamdnclmhaaShelf
import Derived.Test.YthlmgamdnclmhaaWMore
import Derived.Laws.Externs
import Derived.WalkSpells
import Derived.WalkLawsBesides
namespace Go.Proofs.Ythlmgamdnclmhaa.R
open Go.RowKit Go.Proofs.YthlmgamdnclmhaaW.PrintWords Go.Proofs.YthlmgamdnclmhaaW.PrintLast Go.Proofs.YthlmgamdnclmhaaW.PrintMore
set_option linter.unusedVariables false
set_option linter.unusedSimpArgs false

def K64 : Int := 18446744073709551616

def bits_LeadingZeros64.f (a0 : Int) : Option Int := if 0 ≤ a0 ∧ a0 ≤ 18446744073709551615 then some (64 - (Lib.bitLen a0.toNat : Int)) else none
theorem bits_LeadingZeros64.calls (a0 r : Int) (w : World) (h : bits_LeadingZeros64.f a0 = some r) :
    Calls Try.prog 59 #[.int .u64 a0] w fun e w' => e = .returned (.int .i64 r) ∧ Drawn0 w w' := by
  unfold bits_LeadingZeros64.f at h
  split at h
  · rename_i hb
    obtain rfl := Option.some.inj h
    exact (Try.bits_LeadingZeros64 a0 w hb.1 hb.2).mono fun e w' ⟨he, hw⟩ => ⟨he, by subst hw; exact Drawn0.refl _⟩
  · cases h

set_option maxHeartbeats 1000000 in
theorem times_calls (a b : Int) (w : World) (ha : 0 ≤ a) (ha' : a < K64) (hb : 0 ≤ b) (hb' : b < K64) :
    Calls Try.prog 41 #[.int .u64 a, .int .u64 b] w fun e w' => e = .returned (.agg #[.int .u64 (a * b / K64), .int .u64 (a * b % K64)]) ∧ Below w.heap.size w w' := by
  have hc : ∀ w, Calls Try.prog 58 #[.int .u64 a, .int .u64 b] w fun e w' => e = .returned (.tuple #[.int .u64 (a * b / K64), .int .u64 (a * b % K64)]) ∧ w' = w := by
    intro w
    obtain ⟨x, rfl⟩ := Int.eq_ofNat_of_zero_le ha
    obtain ⟨y, rfl⟩ := Int.eq_ofNat_of_zero_le hb
    unfold K64 at *
    have := Try.bits_Mul64 x y (by omega) (by omega) w
    have e1 : ((x * y / 18446744073709551616 : Nat) : Int) = (x : Int) * y / 18446744073709551616 := by simp
    have e2 : ((x * y % 18446744073709551616 : Nat) : Int) = (x : Int) * y % 18446744073709551616 := by simp
    rw [e1, e2] at this
    exact this
  generalize a * b / K64 = x at *
  generalize a * b % K64 = y at *
  clear ha ha' hb hb'
  have Hc := Aside0.mk hc
  clear hc
  go_enter Try.func41, Try.ntmps41
  go_wp2_with (go_at_call 58; refine (Hc.out _).mono ?_; rintro e w' ⟨rfl, rfl⟩)
  refine bodyPost_ret (v := .agg #[.int .u64 x, .int .u64 y]) (by simp [results, Try.results41, go_sem]) rfl ⟨rfl, ?_⟩
  first | exact below_set (below_set (below_alloc (Below.refl _ _) _) (Nat.le_refl _)) (Nat.le_refl _) | exact below_alloc (Below.refl _ _) _

theorem add_run0 (x y : Int) (w : World) : (callFunc 42 #[.int .u64 x, .int .u64 y, .int .u64 0]).run Try.prog w = .ok (.value (Extern.MathBitsCarry.pair ((x.toNat + y.toNat + 0) % Extern.MathBitsCarry.m64) ((x.toNat + y.toNat + 0) / Extern.MathBitsCarry.m64))) w := by kernel_rfl
theorem add_run (x y : Int) (hx : 0 ≤ x) (hy : 0 ≤ y) (w : World) : (callFunc 42 #[.int .u64 x, .int .u64 y, .int .u64 0]).run Try.prog w = .ok (.value (.tuple #[.int .u64 ((x + y) % K64), .int .u64 ((x + y) / K64)])) w := by
  rw [add_run0]
  obtain ⟨a, rfl⟩ := Int.eq_ofNat_of_zero_le hx
  obtain ⟨b, rfl⟩ := Int.eq_ofNat_of_zero_le hy
  have e1 : ((((a : Int).toNat + (b : Int).toNat + 0) % Extern.MathBitsCarry.m64 : Nat) : Int) = ((a : Int) + b) % K64 := by
    unfold Extern.MathBitsCarry.m64 K64; omega
  have e2 : ((((a : Int).toNat + (b : Int).toNat + 0) / Extern.MathBitsCarry.m64 : Nat) : Int) = ((a : Int) + b) / K64 := by
    unfold Extern.MathBitsCarry.m64 K64; omega
  unfold Extern.MathBitsCarry.pair
  simp only [Int.ofNat_eq_natCast]
  rw [e1, e2]

/-- A block that was laid ahead of a call that kept all that was there. -/
theorem laid_blk {w w' : World} {cs : Array Value} {t : TypeId} (h : Below (w.alloc (.cells cs t)).heap.size (w.alloc (.cells cs t)) w') : w'.heap[w.heap.size]? = some (.cells cs t (0, 0)) ∧ w.heap.size < w'.heap.size :=
  ⟨blk_below (blk_new w _) h, by have := h.size; simp at this; omega⟩

theorem next_val (a d x y : Int) (ha : 0 ≤ a) (ha' : a < K64) (hd : 0 ≤ d) (hd' : d < K64) (hx : x = a * d / K64) (hy : y = a * d % K64) :
    IntKind.u64.wrap (x + (y + a) / K64) = a * (d + 1) / K64 ∧ (y + a) % K64 = a * (d + 1) % K64 := by
  subst hx hy
  have e : a * (d + 1) = a * d + a := by rw [Int.mul_add]; omega
  have hm : a * (d + 1) ≤ (K64 - 1) * K64 := Int.mul_le_mul (by omega) (by omega) (by omega) (by decide)
  have hm0 : 0 ≤ a * (d + 1) := Int.mul_nonneg ha (by omega)
  rw [e] at hm hm0 ⊢
  have hq : a * d = K64 * (a * d / K64) + a * d % K64 := (Int.mul_ediv_add_emod _ _).symm
  have hq1 := Int.emod_nonneg (a * d) (b := K64) (by decide)
  have hq2 := Int.emod_lt_of_pos (a * d) (b := K64) (by decide)
  generalize a * d / K64 = i at *
  generalize a * d % K64 = y at *
  generalize a * d = t at *
  unfold K64 at *
  rw [IntKind.wrap_u64]
  omega

set_option maxHeartbeats 1000000 in
theorem next_calls (a d : Int) (w : World) (ha : 0 ≤ a) (ha' : a < K64) (hb : 0 ≤ d) (hb' : d < K64) :
    Calls Try.prog 29 #[.int .u64 a, .int .u64 d] w fun e w' => e = .returned (.agg #[.int .u64 (a * (d + 1) / K64), .int .u64 (a * (d + 1) % K64)]) ∧ Below w.heap.size w w' := by
  have hc := fun w => times_calls a d w ha ha' hb hb'
  obtain ⟨x, hx⟩ : ∃ x, x = a * d / K64 := ⟨_, rfl⟩
  obtain ⟨y, hy⟩ : ∃ y, y = a * d % K64 := ⟨_, rfl⟩
  rw [← hx, ← hy] at hc
  have hy0 : 0 ≤ y := by rw [hy]; exact Int.emod_nonneg _ (by decide)
  have hadd := add_run y a hy0 ha
  obtain ⟨y2, hy2⟩ : ∃ y2, y2 = (y + a) % K64 := ⟨_, rfl⟩
  obtain ⟨c2, hc2⟩ : ∃ c2, c2 = (y + a) / K64 := ⟨_, rfl⟩
  have hv := next_val a d x y ha ha' hb hb' hx hy
  rw [← hy2, ← hc2] at hadd hv
  obtain ⟨z, hz⟩ : ∃ z, z = IntKind.u64.wrap (x + c2) := ⟨_, rfl⟩
  rw [← hz] at hv
  rw [← hv.1, ← hv.2]
  have Hz := Aside0.mk hz
  clear hv hy2 hc2 hz hy0
  have Hc := Aside0.mk hc
  clear hc
  have Hx := Aside0.mk hx
  have Hy := Aside0.mk hy
  have h1 := Aside0.mk ha
  have h2 := Aside0.mk ha'
  have h3 := Aside0.mk hb
  have h4 := Aside0.mk hb'
  clear hx hy ha ha' hb hb'
  go_enter Try.func29, Try.ntmps29
  go_wp2_with (go_at_call 41; refine (Hc.out _).mono ?_; rintro e w' ⟨rfl, hbel⟩; have hl := laid_blk hbel; have hc0 := blk_cell hl.1 0; have hc1 := blk_cell hl.1 1; have hf0 := blk_frozen hl.1 0; have hf1 := blk_frozen hl.1 1; have hlt := hl.2; simp only [List.getElem?_toArray] at hc0 hc1; clear hl)
  refine bodyPost_ret (v := .agg #[.int .u64 z, .int .u64 y2]) (by simp [results, Try.results29, go_sem, hc0, hc1, hf0, hf1, hlt, Hz.out]) rfl ⟨rfl, ?_⟩
  exact below_alloc (below_set (below_set (below_then ((Below.refl _ _).alloc (Nat.le_refl _) _) (by simp) hbel) (Nat.le_refl _)) (Nat.le_refl _)) _


def prio_next.f (a0 a1 : Int) : Option (Int × Int) := if (0 ≤ a0 ∧ a0 < K64) ∧ 0 ≤ a1 ∧ a1 < K64 then some (a0 * (a1 + 1) / K64, a0 * (a1 + 1) % K64) else none
theorem prio_next.calls (a0 a1 r1 r2 : Int) (w : World) (h : prio_next.f a0 a1 = some (r1, r2)) :
    Calls Try.prog 29 #[.int .u64 a0, .int .u64 a1] w fun e w' => e = .returned (.agg #[.int .u64 r1, .int .u64 r2]) ∧ Below w.heap.size w w' := by
  unfold prio_next.f at h
  split at h
  · rename_i hb
    simp only [Option.some.injEq, Prod.mk.injEq] at h
    obtain ⟨rfl, rfl⟩ := h
    exact next_calls a0 a1 w hb.1.1 hb.1.2 hb.2.1 hb.2.2
  · cases h
def prio_times.f (a0 a1 : Int) : Option (Int × Int) := if (0 ≤ a0 ∧ a0 < K64) ∧ 0 ≤ a1 ∧ a1 < K64 then some (a0 * a1 / K64, a0 * a1 % K64) else none
theorem prio_times.calls (a0 a1 r1 r2 : Int) (w : World) (h : prio_times.f a0 a1 = some (r1, r2)) :
    Calls Try.prog 41 #[.int .u64 a0, .int .u64 a1] w fun e w' => e = .returned (.agg #[.int .u64 r1, .int .u64 r2]) ∧ Below w.heap.size w w' := by
  unfold prio_times.f at h
  split at h
  · rename_i hb
    simp only [Option.some.injEq, Prod.mk.injEq] at h
    obtain ⟨rfl, rfl⟩ := h
    exact times_calls a0 a1 w hb.1.1 hb.1.2 hb.2.1 hb.2.2
  · cases h
end Go.Proofs.Ythlmgamdnclmhaa.R
