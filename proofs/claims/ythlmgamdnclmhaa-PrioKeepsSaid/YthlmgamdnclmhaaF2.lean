/- Plain: the document's counts, order and Close tell what is kept. -/
import Derived.Test.YthlmgamdnclmhaaF1
namespace Go.Proofs.Ythlmgamdnclmhaa.A
open Go Go.RowKit Go.Proofs.YthlmgamdnclmhaaW.PrintWords Go.Proofs.YthlmgamdnclmhaaW.PrintLast Go.Proofs.YthlmgamdnclmhaaW.PrintMore Go.Proofs.Ythlmgamdnclmhaa.R
set_option linter.unusedVariables false

set_option maxRecDepth 100000 in
theorem ref_over (hi lo d : Nat) (hhi : hi < 18446744073709551616) (hlo : lo < 18446744073709551616) (hd : 1 ≤ d) (hd' : d < 18446744073709551616) :
    Ev (fun k => telemeterref11_over.f k (hi : Int) (lo : Int) (d : Int)) (clip (((hi * 18446744073709551616 + lo) / d : Nat) : Int)) := by
  by_cases h : d ≤ hi
  · have hc : clip (((hi * 18446744073709551616 + lo) / d : Nat) : Int) = 18446744073709551615 := by
      unfold clip
      have : 18446744073709551616 ≤ (hi * 18446744073709551616 + lo) / d := by
        rw [Nat.le_div_iff_mul_le (by omega)]
        have := Nat.mul_le_mul_right 18446744073709551616 h
        have e := Nat.mul_comm 18446744073709551616 d
        omega
      rw [if_neg (by unfold K64; omega)]
      rfl
    rw [hc]
    refine Ev.congr (f := fun _ => some 18446744073709551615) (fun k => ?_) (Ev.now _)
    rw [telemeterref11_over.f, if_pos (by omega)]
  · have h2 : (hi * 18446744073709551616 + lo) / d < 18446744073709551616 := by
      rw [Nat.div_lt_iff_lt_mul (by omega)]
      have : (hi + 1) * 18446744073709551616 ≤ d * 18446744073709551616 := Nat.mul_le_mul_right _ (by omega)
      rw [Nat.mul_comm 18446744073709551616 d]
      omega
    have hc : clip (((hi * 18446744073709551616 + lo) / d : Nat) : Int) = (((hi * 18446744073709551616 + lo) / d : Nat) : Int) := if_pos (by unfold K64; omega)
    rw [hc]
    have := ref_over_loop hi lo d (by omega) hlo hd' 64 (Nat.le_refl _)
    rw [show (hi * 18446744073709551616 + lo) / 2 ^ 64 = hi by rw [show (2 : Nat) ^ 64 = 18446744073709551616 by decide]; omega, Nat.div_eq_of_lt (by omega), Nat.mod_eq_of_lt (by omega)] at this
    refine Ev.congr (fun k => ?_) this
    rw [telemeterref11_over.f, if_neg (by omega)]
    rfl

set_option maxRecDepth 100000 in
theorem ref_counts (M : Int) (o bar : O) (hM : 0 ≤ M) (hM' : M < K64) (ho : Ok o) (hb : Ok bar) :
    Ev (fun k => telemeterref11_counts.f k o.f0 bar.f0 bar.f1 M) ((countsV M o bar).2.1, (countsV M o bar).2.2) := by
  have hA := allW_bd hM hM' hb.w0 hb.w1
  have hT := ref_times bar.f0 M hb.w0 hb.w1 hM hM'
  have h0 : ∀ k, telemeterref11_counts.f k o.f0 bar.f0 bar.f1 M = telemeterref11_counts.j0 k o.f0 (allW M bar.f0 / K64) (allW M bar.f0 % K64) bar.f0 bar.f1 := by
    intro k
    unfold telemeterref11_counts.f allW
    rw [hT, Option.bind_some]
    by_cases h : M = 0
    · rw [if_pos h, if_pos h, Int.mul_ediv_cancel _ (by decide), Int.mul_emod_left]
    · rw [if_neg h, if_neg h]
  refine Ev.congr h0 ?_
  generalize hAA : allW M bar.f0 = A at *
  have hP := ref_product o.f0 bar.f1 ho.w0 ho.w1 hb.d0 hb.d1
  obtain ⟨B, hB⟩ : ∃ B, B = o.f0 * (bar.f1 + 1) := ⟨_, rfl⟩
  rw [← hB] at hP
  have hd0 := hb.d0
  have hd1 := hb.d1
  have j1 : Ev (fun k => telemeterref11_counts.j1 k o.f0 (A / K64) (A % K64) (decide (A ≤ B)) bar.f0 bar.f1) ((countsV M o bar).2.1, (countsV M o bar).2.2) := by
    unfold countsV
    rw [hAA, ← hB]
    by_cases h1 : A ≤ B
    · rw [if_pos h1]
      refine Ev.step (f := fun _ => some (o.f0, 1)) (fun k => ?_) (Ev.now _)
      rw [telemeterref11_counts.j1, if_pos (decide_eq_true h1)]
    · rw [if_neg h1]
      by_cases h2 : bar.f1 + 1 = K64
      · rw [if_pos h2]
        refine Ev.step (f := fun _ => some (bar.f0, 1)) (fun k => ?_) (Ev.now _)
        rw [telemeterref11_counts.j1, if_neg (by rw [decide_eq_false h1]; simp), if_pos (by unfold K64 at h2; omega)]
      · rw [if_neg h2]
        obtain ⟨d, hd⟩ := Int.eq_ofNat_of_zero_le (show 0 ≤ bar.f1 + 1 by omega)
        obtain ⟨hi, hhi⟩ := Int.eq_ofNat_of_zero_le (show 0 ≤ A / K64 from Int.ediv_nonneg hA.1 (by decide))
        obtain ⟨lo, hlo⟩ := Int.eq_ofNat_of_zero_le (show 0 ≤ A % K64 from Int.emod_nonneg _ (by decide))
        have hhi' : A / K64 < K64 := Int.ediv_lt_of_lt_mul (by decide) hA.2
        have hlo' : A % K64 < K64 := Int.emod_lt_of_pos _ K64_pos
        have hAe : A = ((hi * 18446744073709551616 + lo : Nat) : Int) := by
          have := Int.mul_ediv_add_emod A K64
          rw [hhi, hlo] at this
          unfold K64 at this
          omega
        rw [hhi] at hhi'
        rw [hlo] at hlo'
        rw [hhi, hlo, hd]
        have hw : IntKind.u64.wrap (bar.f1 + 1) = (d : Int) := by rw [hd]; exact w64' (by omega) (by unfold K64 at *; omega)
        unfold K64 at h2 hd1 hhi' hlo'
        have hr := ref_rest hi lo d (by omega) (by omega) (by omega) (by omega)
        have hg := ref_gcd ((hi * 18446744073709551616 + lo) % d) d
        have eg : (Int.gcd (d : Int) (A % (d : Int)) : Int) = ((Nat.gcd d ((hi * 18446744073709551616 + lo) % d) : Nat) : Int) := by
          rw [hAe, ← Int.natCast_emod, Int.gcd_natCast_natCast]
        rw [eg]
        obtain ⟨G, hG⟩ : ∃ G, G = Nat.gcd d ((hi * 18446744073709551616 + lo) % d) := ⟨_, rfl⟩
        have hG1 : 1 ≤ G := by rw [hG]; exact Nat.gcd_pos_of_pos_left _ (by omega)
        have hG2 : G ≤ d := by rw [hG]; exact Nat.gcd_le_left _ (by omega)
        rw [← hG] at hg ⊢
        have hov := ref_over hi lo G (by omega) (by omega) hG1 (by omega)
        rw [show A / (G : Int) = (((hi * 18446744073709551616 + lo) / G : Nat) : Int) by rw [hAe, Int.natCast_ediv]]
        have h3 := Ev.bind hr (f := fun k t => (telemeterref11_gcd.f k (d : Int) t).bind fun t170 => (telemeterref11_over.f k (hi : Int) (lo : Int) t170).bind fun t171 => if t170 = 0 then none else some (t171, IntKind.u64.wrap (Int.tdiv (d : Int) t170)))
          (Ev.bind (g := fun k => telemeterref11_gcd.f k (d : Int) (((hi * 18446744073709551616 + lo) % d : Nat) : Int)) hg (Ev.bind hov (Ev.now ((clip (((hi * 18446744073709551616 + lo) / G : Nat) : Int)), (d : Int) / (G : Int)) |> fun e => Ev.congr (fun k => by
            rw [if_neg (by omega), Int.tdiv_eq_ediv_of_nonneg (by omega), w64' (Int.ediv_nonneg (by omega) (by omega)) (by have hdg : (d : Int) / (G : Int) ≤ d := Int.ediv_le_self _ (by omega); omega)]) e)))
        dsimp only
        refine Ev.step (fun k => ?_) h3
        have e1 : ¬ (decide (A ≤ B)) = true := by rw [decide_eq_false h1]; simp
        have e2 : ¬ bar.f1 = 18446744073709551615 := by omega
        simp only [telemeterref11_counts.j1, if_neg e1, if_neg e2, hw]
  refine Ev.step (fun k => ?_) j1
  rw [telemeterref11_counts.j0, hP, Option.bind_some]
  unfold K64
  by_cases h1 : B / 18446744073709551616 > A / 18446744073709551616
  · rw [if_pos h1, decide_eq_true (by omega)]
  · rw [if_neg h1]
    by_cases h2 : B / 18446744073709551616 = A / 18446744073709551616
    · rw [if_pos h2]; congr 1; rw [decide_eq_decide]; omega
    · rw [if_neg h2, decide_eq_false (by omega)]
end Go.Proofs.Ythlmgamdnclmhaa.A
