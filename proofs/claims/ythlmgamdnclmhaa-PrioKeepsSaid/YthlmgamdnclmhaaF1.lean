/- Plain: the document's product, Above, gcd, rest, over, counts. -/
import Derived.Test.YthlmgamdnclmhaaRx
import Derived.Test.YthlmgamdnclmhaaPP
import Derived.Test.YthlmgamdnclmhaaMM
namespace Go.Proofs.Ythlmgamdnclmhaa.A
open Go Go.RowKit Go.Proofs.YthlmgamdnclmhaaW.PrintWords Go.Proofs.YthlmgamdnclmhaaW.PrintLast Go.Proofs.YthlmgamdnclmhaaW.PrintMore Go.Proofs.Ythlmgamdnclmhaa.R
set_option linter.unusedVariables false

theorem w64' {x : Int} (h0 : 0 ≤ x) (h1 : x < 18446744073709551616) : IntKind.u64.wrap x = x := by rw [IntKind.wrap_u64]; omega
theorem halves (x y u v : Int) (hx : 0 ≤ x) (hx' : x < 4294967296) (hy : 0 ≤ y) (hy' : y < 4294967296) (hu : 0 ≤ u) (hu' : u < 4294967296) (hv : 0 ≤ v) (hv' : v < 4294967296) :
    (0 ≤ y * v ∧ y * v ≤ 18446744065119617025) ∧ (0 ≤ x * v ∧ x * v ≤ 18446744065119617025) ∧ (0 ≤ y * u ∧ y * u ≤ 18446744065119617025) ∧ (0 ≤ x * u ∧ x * u ≤ 18446744065119617025) ∧
      (x * 4294967296 + y) * (u * 4294967296 + v) = x * u * 18446744073709551616 + (x * v + y * u) * 4294967296 + y * v := by
  have b : ∀ p q : Int, 0 ≤ p → p < 4294967296 → 0 ≤ q → q < 4294967296 → 0 ≤ p * q ∧ p * q ≤ 18446744065119617025 := fun p q h1 h2 h3 h4 =>
    ⟨Int.mul_nonneg h1 h3, Int.mul_le_mul (show p ≤ 4294967295 by omega) (show q ≤ 4294967295 by omega) h3 (by decide)⟩
  refine ⟨b _ _ hy hy' hv hv', b _ _ hx hx' hv hv', b _ _ hy hy' hu hu', b _ _ hx hx' hu hu', ?_⟩
  rw [Int.add_mul, Int.mul_add, Int.mul_add, show x * 4294967296 * (u * 4294967296) = x * u * 18446744073709551616 by rw [Int.mul_assoc, Int.mul_comm 4294967296 (u * 4294967296), Int.mul_assoc u, ← Int.mul_assoc]; rfl, show x * 4294967296 * v = x * v * 4294967296 by rw [Int.mul_assoc, Int.mul_comm 4294967296 v, ← Int.mul_assoc], show y * (u * 4294967296) = y * u * 4294967296 by rw [Int.mul_assoc]]
  omega

theorem ref_times (a b : Int) (ha : 0 ≤ a) (ha' : a < K64) (hb : 0 ≤ b) (hb' : b < K64) : telemeterref11_times.f a b = some (a * b / K64, a * b % K64) := by
  unfold K64 at *
  obtain ⟨x, hx⟩ : ∃ x, x = a / 4294967296 := ⟨_, rfl⟩
  obtain ⟨y, hy⟩ : ∃ y, y = a % 4294967296 := ⟨_, rfl⟩
  obtain ⟨u, hu⟩ : ∃ u, u = b / 4294967296 := ⟨_, rfl⟩
  obtain ⟨v, hv⟩ : ∃ v, v = b % 4294967296 := ⟨_, rfl⟩
  obtain ⟨⟨p0, p1⟩, ⟨q0, q1⟩, ⟨r0, r1⟩, ⟨s0, s1⟩, e⟩ := halves x y u v (by omega) (by omega) (by omega) (by omega) (by omega) (by omega) (by omega) (by omega)
  have eab : a * b = (x * 4294967296 + y) * (u * 4294967296 + v) := by
    rw [show x * 4294967296 + y = a by omega, show u * 4294967296 + v = b by omega]
  unfold telemeterref11_times.f
  rw [Int.tdiv_eq_ediv_of_nonneg ha, Int.tdiv_eq_ediv_of_nonneg hb, Int.tmod_eq_emod_of_nonneg ha, Int.tmod_eq_emod_of_nonneg hb, ← hx, ← hy, ← hu, ← hv, eab, e]
  rw [w64' (x := x) (by omega) (by omega), w64' (x := u) (by omega) (by omega)]
  generalize y * v = p at *
  generalize x * v = q at *
  generalize y * u = r at *
  generalize x * u = s at *
  rw [w64' (x := p) p0 (by omega), w64' (x := q) q0 (by omega), w64' (x := r) r0 (by omega), w64' (x := s) s0 (by omega)]
  rw [Int.tdiv_eq_ediv_of_nonneg p0, Int.tmod_eq_emod_of_nonneg p0, w64' (x := p / 4294967296) (by omega) (by omega)]
  rw [w64' (x := q + p / 4294967296) (by omega) (by omega), Int.tdiv_eq_ediv_of_nonneg (show 0 ≤ q + p / 4294967296 by omega), Int.tmod_eq_emod_of_nonneg (show 0 ≤ q + p / 4294967296 by omega)]
  generalize hm : q + p / 4294967296 = m at *
  rw [w64' (x := m / 4294967296) (by omega) (by omega), w64' (x := r + m % 4294967296) (by omega) (by omega), Int.tdiv_eq_ediv_of_nonneg (show 0 ≤ r + m % 4294967296 by omega), Int.tmod_eq_emod_of_nonneg (show 0 ≤ r + m % 4294967296 by omega)]
  generalize ho : r + m % 4294967296 = o at *
  rw [w64' (x := s + m / 4294967296) (by omega) (by omega), w64' (x := o / 4294967296) (by omega) (by omega), w64' (x := s + m / 4294967296 + o / 4294967296) (by omega) (by omega), w64' (x := o % 4294967296 * 4294967296) (by omega) (by omega), w64' (x := o % 4294967296 * 4294967296 + p % 4294967296) (by omega) (by omega)]
  congr 1
  rw [Prod.mk.injEq]
  omega

theorem ref_product (a d : Int) (ha : 0 ≤ a) (ha' : a < K64) (hd : 0 ≤ d) (hd' : d < K64) : telemeterref11_product.f a d = some (a * (d + 1) / K64, a * (d + 1) % K64) := by
  unfold telemeterref11_product.f
  rw [ref_times a d ha ha' hd hd', Option.bind_some]
  have e : a * (d + 1) = a * d + a := by rw [Int.mul_add]; omega
  have hm : a * (d + 1) ≤ (K64 - 1) * K64 := Int.mul_le_mul (by omega) (by omega) (by omega) (by decide)
  rw [e] at hm ⊢
  have h0 := Int.mul_nonneg ha hd
  generalize a * d = t at *
  unfold K64 at *
  simp only [IntKind.wrap_u64]
  split
  · congr 1; rw [Prod.mk.injEq]; omega
  · congr 1; rw [Prod.mk.injEq]; omega
theorem ref_Above (a c b d : Int) (ha : 0 ≤ a) (ha' : a < K64) (hc : 0 ≤ c) (hc' : c < K64) (hb : 0 ≤ b) (hb' : b < K64) (hd : 0 ≤ d) (hd' : d < K64) :
    telemeterref11_Above.f a c b d = some (decide (b * (c + 1) < a * (d + 1))) := by
  unfold telemeterref11_Above.f
  rw [ref_product a d ha ha' hd hd', ref_product b c hb hb' hc hc']
  simp only [Option.bind_some]
  exact wide_lt

theorem ref_gcd : ∀ (b a : Nat), Ev (fun k => telemeterref11_gcd.l0 k (a : Int) (b : Int)) ((Nat.gcd a b : Nat) : Int)
  | 0, a => by
    refine Ev.step (f := fun _ => some ((Nat.gcd a 0 : Nat) : Int)) (fun k => ?_) (Ev.now _)
    unfold telemeterref11_gcd.l0
    rw [if_neg (by simp), Nat.gcd_zero_right]
  | b + 1, a => by
    have h := ref_gcd (a % (b + 1)) (b + 1)
    rw [show Nat.gcd (b + 1) (a % (b + 1)) = Nat.gcd a (b + 1) by rw [Nat.gcd_comm, ← Nat.gcd_rec, Nat.gcd_comm]] at h
    refine Ev.step (fun k => ?_) h
    rw [telemeterref11_gcd.l0, if_pos (by omega), if_neg (by omega), Int.tmod_eq_emod_of_nonneg (by omega), ← Int.natCast_emod]
termination_by b => b
decreasing_by exact Nat.mod_lt _ (Nat.succ_pos _)

theorem and_one (x : Nat) (h : x < 18446744073709551616) : Go.bits .and .u64 (x : Int) 1 = ((x % 2 : Nat) : Int) := by
  rw [u64_and (x : Int) 1 (by omega) (by omega) (by decide) (by decide)]
  have : (1 : Int).toNat = 1 := rfl
  rw [this, Int.toNat_natCast, Nat.and_one_is_mod]

/-- A digit of a number of 128 digits. -/
theorem digit_hi (hi lo n : Nat) (hn : 64 ≤ n) (hlo : lo < 18446744073709551616) : (hi * 18446744073709551616 + lo) / 2 ^ n % 2 = hi / 2 ^ (n - 64) % 2 := by
  obtain ⟨m, rfl⟩ : ∃ m, n = 64 + m := ⟨n - 64, by omega⟩
  rw [Nat.add_sub_cancel_left, Nat.pow_add, ← Nat.div_div_eq_div_mul, show (2 : Nat) ^ 64 = 18446744073709551616 by decide, show (hi * 18446744073709551616 + lo) / 18446744073709551616 = hi by omega]
theorem digit_lo (hi lo n : Nat) (hn : n < 64) : (hi * 18446744073709551616 + lo) / 2 ^ n % 2 = lo / 2 ^ n % 2 := by
  obtain ⟨m, hm⟩ : ∃ m, 64 = n + 1 + m := ⟨63 - n, by omega⟩
  have e : hi * 18446744073709551616 = hi * 2 ^ m * 2 * 2 ^ n := by
    rw [show (18446744073709551616 : Nat) = 2 ^ 64 by decide, hm, Nat.pow_add, Nat.pow_add, Nat.pow_one, Nat.mul_comm (2 ^ n * 2), ← Nat.mul_assoc, Nat.mul_comm (2 ^ n) 2, ← Nat.mul_assoc]
  rw [e, Nat.add_comm, Nat.add_mul_div_right _ _ (Nat.two_pow_pos n), Nat.add_mul_mod_self_right]
theorem div_next (A n : Nat) : A / 2 ^ n = 2 * (A / 2 ^ (n + 1)) + A / 2 ^ n % 2 := by
  rw [Nat.pow_succ, ← Nat.div_div_eq_div_mul]
  omega

theorem ref_rest_loop (hi lo d : Nat) (hhi : hi < 18446744073709551616) (hlo : lo < 18446744073709551616) (hd : 1 ≤ d) (hd' : d < 18446744073709551616) :
    ∀ n : Nat, n ≤ 128 → Ev (fun k => telemeterref11_rest.l0 k (hi : Int) (lo : Int) (d : Int) (((hi * 18446744073709551616 + lo) / 2 ^ n % d : Nat) : Int) ((n : Int) - 1)) (((hi * 18446744073709551616 + lo) % d : Nat) : Int)
  | 0, _ => by
    refine Ev.step (f := fun _ => some (((hi * 18446744073709551616 + lo) % d : Nat) : Int)) (fun k => ?_) (Ev.now _)
    rw [telemeterref11_rest.l0, if_neg (by omega), Nat.pow_zero, Nat.div_one]
  | n + 1, hn => by
    have ih := ref_rest_loop hi lo d hhi hlo hd hd' n (by omega)
    generalize hA : hi * 18446744073709551616 + lo = A at *
    have hb : A / 2 ^ n = 2 * (A / 2 ^ (n + 1)) + A / 2 ^ n % 2 := div_next A n
    generalize hq : A / 2 ^ (n + 1) = q at *
    generalize hbit : A / 2 ^ n % 2 = bit at *
    have hbit2 : bit < 2 := by rw [← hbit]; exact Nat.mod_lt _ (by decide)
    obtain ⟨r, hr⟩ : ∃ r, r = q % d := ⟨_, rfl⟩
    have hrd : r < d := by rw [hr]; exact Nat.mod_lt _ hd
    rw [← hr]
    have hnew : A / 2 ^ n % d = (2 * r + bit) % d := by
      have e := Nat.div_add_mod q d
      rw [hb, hr, show 2 * q + bit = d * (2 * (q / d)) + (2 * (q % d) + bit) by rw [Nat.mul_left_comm]; omega, Nat.mul_add_mod]
    rw [hnew] at ih
    have e1 : wrap64 (((n + 1 : Nat) : Int) - 1 - 1) = (n : Int) - 1 := by unfold wrap64; omega
    -- the two steps behind the digit
    have j2 : ∀ r1 : Nat, r1 < d → r1 % d = (2 * r) % d → Ev (fun k => telemeterref11_rest.j2 k (hi : Int) (lo : Int) (d : Int) (r1 : Int) (((n + 1 : Nat) : Int) - 1) (bit : Int)) ((A % d : Nat) : Int) := by
      intro r1 hr1 hm
      have hm2 : (2 * r + bit) % d = (r1 + bit) % d := by rw [Nat.add_mod, ← hm, ← Nat.add_mod]
      rw [hm2] at ih
      by_cases h1 : bit = 1
      · subst h1
        by_cases h2 : r1 + 1 = d
        · rw [h2, Nat.mod_self] at ih
          refine Ev.step (fun k => ?_) ih
          rw [telemeterref11_rest.j2, if_pos (show ((1 : Nat) : Int) = 1 from rfl), w64' (by omega) (by omega), if_pos (by omega), e1]
          rfl
        · rw [Nat.mod_eq_of_lt (by omega)] at ih
          refine Ev.step (fun k => ?_) ih
          rw [telemeterref11_rest.j2, if_pos (show ((1 : Nat) : Int) = 1 from rfl), w64' (by omega) (by omega), if_neg (by omega), e1]
          rfl
      · obtain rfl : bit = 0 := by omega
        rw [Nat.add_zero, Nat.mod_eq_of_lt hr1] at ih
        refine Ev.step (fun k => ?_) ih
        rw [telemeterref11_rest.j2, if_neg (by omega), e1]
    have j1 : Ev (fun k => telemeterref11_rest.j1 k (hi : Int) (lo : Int) (d : Int) (r : Int) (((n + 1 : Nat) : Int) - 1) (bit : Int)) ((A % d : Nat) : Int) := by
      by_cases h1 : d ≤ 2 * r
      · refine Ev.step (fun k => ?_) (j2 (2 * r - d) (by omega) (by rw [← Nat.add_mod_right, Nat.sub_add_cancel h1]))
        rw [telemeterref11_rest.j1, w64' (x := (d : Int) - r) (by omega) (by omega), if_pos (by omega), w64' (by omega) (by omega)]
        congr 1; omega
      · refine Ev.step (fun k => ?_) (j2 (2 * r) (by omega) rfl)
        rw [telemeterref11_rest.j1, w64' (x := (d : Int) - r) (by omega) (by omega), if_neg (by omega), w64' (by omega) (by omega)]
        rfl
    refine Ev.step (fun k => ?_) j1
    have e2 : Int.tmod (((n + 1 : Nat) : Int) - 1) 64 = ((n % 64 : Nat) : Int) := by rw [Int.tmod_eq_emod_of_nonneg (by omega)]; omega
    rw [telemeterref11_rest.l0, if_pos (by omega), e2, w64' (x := ((n % 64 : Nat) : Int)) (by omega) (by omega), if_pos (by omega)]
    by_cases h64 : 64 ≤ n
    · have e3 : wrap64 (((n + 1 : Nat) : Int) - 1 - 64) = ((n - 64 : Nat) : Int) := by unfold wrap64; omega
      rw [if_pos (by omega), e3, w64' (x := ((n - 64 : Nat) : Int)) (by omega) (by omega), if_pos (by omega), Go.Proofs.Ythlmgamdnclmhaa.M.shr_nat _ _ (by omega), and_one _ (Nat.lt_of_le_of_lt (Nat.div_le_self _ _) hhi), ← digit_hi hi lo n h64 hlo, hA, hbit]
    · rw [if_neg (by omega), Go.Proofs.Ythlmgamdnclmhaa.M.shr_nat _ _ (by omega), and_one _ (Nat.lt_of_le_of_lt (Nat.div_le_self _ _) hlo), show n % 64 = n from Nat.mod_eq_of_lt (by omega), ← digit_lo hi lo n (by omega), hA, hbit]
theorem ref_rest (hi lo d : Nat) (hhi : hi < 18446744073709551616) (hlo : lo < 18446744073709551616) (hd : 1 ≤ d) (hd' : d < 18446744073709551616) :
    Ev (fun k => telemeterref11_rest.f k (hi : Int) (lo : Int) (d : Int)) (((hi * 18446744073709551616 + lo) % d : Nat) : Int) := by
  have h := ref_rest_loop hi lo d hhi hlo hd hd' 128 (Nat.le_refl _)
  rw [Nat.div_eq_of_lt (by omega), Nat.zero_mod] at h
  exact h

theorem ref_over_loop (hi lo d : Nat) (hhi : hi < d) (hlo : lo < 18446744073709551616) (hd' : d < 18446744073709551616) :
    ∀ n : Nat, n ≤ 64 → Ev (fun k => telemeterref11_over.l0 k (lo : Int) (d : Int) (((hi * 18446744073709551616 + lo) / 2 ^ n / d : Nat) : Int) (((hi * 18446744073709551616 + lo) / 2 ^ n % d : Nat) : Int) ((n : Int) - 1)) (((hi * 18446744073709551616 + lo) / d : Nat) : Int)
  | 0, _ => by
    refine Ev.step (f := fun _ => some (((hi * 18446744073709551616 + lo) / d : Nat) : Int)) (fun k => ?_) (Ev.now _)
    rw [telemeterref11_over.l0, if_neg (by omega), Nat.pow_zero, Nat.div_one]
  | n + 1, hn => by
    have ih := ref_over_loop hi lo d hhi hlo hd' n (by omega)
    have hAd : (hi * 18446744073709551616 + lo) / d < 18446744073709551616 := by
      rw [Nat.div_lt_iff_lt_mul (by omega)]
      have : (hi + 1) * 18446744073709551616 ≤ d * 18446744073709551616 := Nat.mul_le_mul_right _ hhi
      rw [Nat.mul_comm 18446744073709551616 d]
      omega
    have hdig := digit_lo hi lo n (by omega)
    generalize hA : hi * 18446744073709551616 + lo = A at *
    have hb : A / 2 ^ n = 2 * (A / 2 ^ (n + 1)) + A / 2 ^ n % 2 := div_next A n
    have hAn : A / 2 ^ n / d < 18446744073709551616 := Nat.lt_of_le_of_lt (Nat.div_le_div_right (Nat.div_le_self _ _)) hAd
    generalize hq : A / 2 ^ (n + 1) = q at *
    generalize hbit : A / 2 ^ n % 2 = bit at *
    have hbit2 : bit < 2 := by rw [← hbit]; exact Nat.mod_lt _ (by decide)
    obtain ⟨r, hr⟩ : ∃ r, r = q % d := ⟨_, rfl⟩
    obtain ⟨s, hs⟩ : ∃ s, s = q / d := ⟨_, rfl⟩
    have hqd : q = d * s + r := by rw [hr, hs]; exact (Nat.div_add_mod q d).symm
    have hrd : r < d := by rw [hr]; exact Nat.mod_lt _ (by omega)
    rw [← hr, ← hs]
    have e1 : wrap64 (((n + 1 : Nat) : Int) - 1 - 1) = (n : Int) - 1 := by unfold wrap64; omega
    have hdm : ∀ t u : Nat, u < d → A / 2 ^ n = d * t + u → A / 2 ^ n / d = t ∧ A / 2 ^ n % d = u := by
      intro t u hu he
      rw [he]
      exact ⟨by rw [Nat.mul_add_div (by omega), Nat.div_eq_of_lt hu, Nat.add_zero], by rw [Nat.mul_add_mod, Nat.mod_eq_of_lt hu]⟩
    have j1 : ∀ s1 r1 : Nat, r1 < d → 2 * q = d * s1 + r1 → Ev (fun k => telemeterref11_over.j1 k (lo : Int) (d : Int) (s1 : Int) (r1 : Int) (((n + 1 : Nat) : Int) - 1)) ((A / d : Nat) : Int) := by
      intro s1 r1 hr1 hm
      have hw : IntKind.u64.wrap (((n + 1 : Nat) : Int) - 1) = (n : Int) := by rw [w64' (by omega) (by omega)]; omega
      have hsh : Go.bits .and .u64 (shr .u64 (lo : Int) (n : Int)) 1 = (bit : Int) := by
        rw [Go.Proofs.Ythlmgamdnclmhaa.M.shr_nat _ _ (by omega), and_one _ (Nat.lt_of_le_of_lt (Nat.div_le_self _ _) hlo), ← hdig]
      by_cases h1 : bit = 1
      · subst h1
        by_cases h2 : r1 + 1 = d
        · obtain ⟨f1, f2⟩ := hdm (s1 + 1) 0 (by omega) (by rw [hb, hm, Nat.mul_add]; omega)
          rw [f1, f2] at ih
          rw [f1] at hAn
          refine Ev.step (fun k => ?_) ih
          rw [telemeterref11_over.j1, hw, if_pos (by omega), hsh, if_pos (show ((1 : Nat) : Int) = 1 from rfl), w64' (x := (r1 : Int) + 1) (by omega) (by omega), if_pos (by omega), w64' (x := (s1 : Int) + 1) (by omega) (by omega), e1]
          rfl
        · obtain ⟨f1, f2⟩ := hdm s1 (r1 + 1) (by omega) (by rw [hb, hm]; omega)
          rw [f1, f2] at ih
          refine Ev.step (fun k => ?_) ih
          rw [telemeterref11_over.j1, hw, if_pos (by omega), hsh, if_pos (show ((1 : Nat) : Int) = 1 from rfl), w64' (x := (r1 : Int) + 1) (by omega) (by omega), if_neg (by omega), e1]
          rfl
      · obtain rfl : bit = 0 := by omega
        obtain ⟨f1, f2⟩ := hdm s1 r1 hr1 (by rw [hb, hm]; omega)
        rw [f1, f2] at ih
        refine Ev.step (fun k => ?_) ih
        rw [telemeterref11_over.j1, hw, if_pos (by omega), hsh, if_neg (by omega), e1]
    have hs2 : d * (2 * s) = 2 * (d * s) := by rw [← Nat.mul_assoc, Nat.mul_comm d 2, Nat.mul_assoc]
    have hle : ∀ t u : Nat, 2 * q = d * t + u → t ≤ A / 2 ^ n / d := fun t u he => by
      rw [Nat.le_div_iff_mul_le (by omega), hb, he, Nat.mul_comm]
      omega
    by_cases h1 : d ≤ 2 * r
    · have he : 2 * q = d * (2 * s + 1) + (2 * r - d) := by rw [Nat.mul_add, hs2, hqd]; omega
      have hl := hle _ _ he
      refine Ev.step (fun k => ?_) (j1 (2 * s + 1) (2 * r - d) (by omega) he)
      rw [telemeterref11_over.l0, if_pos (by omega), w64' (x := (d : Int) - r) (by omega) (by omega), if_pos (by omega), w64' (x := 2 * (s : Int)) (by omega) (by omega), w64' (x := 2 * (s : Int) + 1) (by omega) (by omega), w64' (by omega) (by omega)]
      congr 1 <;> omega
    · have he : 2 * q = d * (2 * s) + 2 * r := by rw [hs2, hqd]; omega
      have hl := hle _ _ he
      refine Ev.step (fun k => ?_) (j1 (2 * s) (2 * r) (by omega) he)
      rw [telemeterref11_over.l0, if_pos (by omega), w64' (x := (d : Int) - r) (by omega) (by omega), if_neg (by omega), w64' (x := 2 * (s : Int)) (by omega) (by omega), w64' (x := 2 * (r : Int)) (by omega) (by omega)]
      rfl
end Go.Proofs.Ythlmgamdnclmhaa.A
