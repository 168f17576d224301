/- PrioHeavy: the walk. -/
import Derived.Test.YthlmgamdnclmhaaL1
import Derived.Test.YthlmgamdnclmhaaPP
namespace Go.Proofs.Ythlmgamdnclmhaa.A
open Go.RowKit Go.Proofs.YthlmgamdnclmhaaW.PrintWords Go.Proofs.YthlmgamdnclmhaaW.PrintLast Go.Proofs.YthlmgamdnclmhaaW.PrintMore Go.Proofs.Ythlmgamdnclmhaa.R
set_option linter.unusedVariables false
set_option linter.unusedSimpArgs false

set_option maxHeartbeats 4000000 in
set_option maxRecDepth 100000 in
theorem heavy_walk (a b d : Int) (how : Bool) (ha : 0 ≤ a) (ha' : a ≤ 255) (hb : 0 ≤ b) (hb' : b ≤ 255) (hd : 0 ≤ d) (hd' : d ≤ 255) (w : World) :
    Calls Try.prog 3 #[.int .u8 a, .int .u8 b, .int .u8 d, .bool how] w fun e w' => e = .returned (.bool true) ∧ Below w.heap.size w w' := by
  have e1 : IntKind.u64.wrap a = a := by rw [IntKind.wrap_u64]; omega
  have e2 : IntKind.u64.wrap b = b := by rw [IntKind.wrap_u64]; omega
  have e3 : IntKind.u64.wrap d = d := by rw [IntKind.wrap_u64]; omega
  have e4 : IntKind.u64.wrap (a + 1) = a + 1 := by rw [IntKind.wrap_u64]; omega
  have e5 : IntKind.u64.wrap (b + 1) = b + 1 := by rw [IntKind.wrap_u64]; omega
  have e6 : IntKind.u64.wrap (d + 1) = d + 1 := by rw [IntKind.wrap_u64]; omega
  go_enter Try.func3, Try.ntmps3
  go_wp2_with fail
  refine (New_SR w w 1 0 (Below.refl _ _) (by decide) (by decide)).mono ?_
  rintro e w1 ⟨rfl, hs1, hb1⟩
  have HS1 := Aside0.mk hs1
  obtain ⟨g, hg⟩ : ∃ g, g = w.heap.size := ⟨_, rfl⟩
  rw [← hg] at HS1 ⊢
  clear hs1 hb1 hg
  cases how with
  | true =>
    go_wp2_with fail
    refine (Add_SR w w1 g 1 0 (a + 1) d [] HS1.out (by decide) (by decide) (by decide) (by omega) (by omega) (by omega) (by unfold K64; omega) (by decide) (by decide)).mono ?_
    rintro e w2 ⟨rfl, hs2, ho2⟩
    have HS2 := Aside0.mk hs2
    clear hs2 ho2
    go_wp2_with fail
    refine (Add_SR w w2 g 1 0 (b + 1) d _ HS2.out (by decide) (by decide) (by simp) (by omega) (by omega) (by omega) (by unfold K64; omega) (by decide) (by decide)).mono ?_
    rintro e w3 ⟨rfl, hs3, ho3⟩
    have HS3 := Aside0.mk (show SR w w3 g 1 0 [⟨(a + 1), d, 0⟩, ⟨(b + 1), d, 1⟩] from hs3)
    clear hs3 ho3
    go_wp2_with fail
    refine (Close_SR w w3 g 1 0 _ HS3.out (by decide) (by decide) (by simp) (by decide) (by decide)).mono ?_
    rintro e w4 ⟨vo, rfl, hr4, hs4, ho4⟩
    obtain ⟨k, hk, hk0⟩ := two_close 0 ⟨(a + 1), d, 0⟩ ⟨(b + 1), d, 1⟩ rfl rfl
    rw [hk] at hr4
    rw [heavy_how a b d hd] at hk0
    have HS4 := Aside0.mk hs4
    obtain ⟨b4, cap, rfl, hcap, hcm⟩ := ownP_some (n := 0) hr4
    have HR4 := Aside0.mk hr4
    obtain ⟨k0, k1, k2⟩ := k
    simp only at hk0
    clear hs4 ho4 hr4 hk hcap hcm
    by_cases hab : a < b
    · have hd1 : decide (a < b) = true := decide_eq_true hab
      rw [hd1, if_pos rfl] at hk0
      subst hk0
      go_wp2_with fail
      refine (known_calls w w4 HS4.out.bel).mono ?_
      rintro e w5 ⟨rfl, ho5, hb5⟩
      obtain ⟨c0, c1, c2⟩ := rowP_get (ho5.own HR4.out (by decide) (by decide)) 0 _ rfl
      have HB5 := Aside0.mk hb5
      simp only [Nat.zero_mul, Nat.zero_add] at c0 c1 c2
      clear ho5 hb5
      go_wp2_with fail
      go_ret
      exact ⟨rfl, HB5.out⟩
    · have hd1 : decide (a < b) = false := decide_eq_false hab
      rw [hd1, if_neg (by simp)] at hk0
      subst hk0
      go_wp2_with fail
      refine (known_calls w w4 HS4.out.bel).mono ?_
      rintro e w5 ⟨rfl, ho5, hb5⟩
      obtain ⟨c0, c1, c2⟩ := rowP_get (ho5.own HR4.out (by decide) (by decide)) 0 _ rfl
      have HB5 := Aside0.mk hb5
      simp only [Nat.zero_mul, Nat.zero_add] at c0 c1 c2
      clear ho5 hb5
      go_wp2_with fail
      go_ret
      exact ⟨rfl, HB5.out⟩
  | false =>
    go_wp2_with fail
    refine (Add_SR w w1 g 1 0 (d + 1) b [] HS1.out (by decide) (by decide) (by decide) (by omega) (by omega) (by omega) (by unfold K64; omega) (by decide) (by decide)).mono ?_
    rintro e w2 ⟨rfl, hs2, ho2⟩
    have HS2 := Aside0.mk hs2
    clear hs2 ho2
    go_wp2_with fail
    refine (Add_SR w w2 g 1 0 (d + 1) a _ HS2.out (by decide) (by decide) (by simp) (by omega) (by omega) (by omega) (by unfold K64; omega) (by decide) (by decide)).mono ?_
    rintro e w3 ⟨rfl, hs3, ho3⟩
    have HS3 := Aside0.mk (show SR w w3 g 1 0 [⟨(d + 1), b, 0⟩, ⟨(d + 1), a, 1⟩] from hs3)
    clear hs3 ho3
    go_wp2_with fail
    refine (Close_SR w w3 g 1 0 _ HS3.out (by decide) (by decide) (by simp) (by decide) (by decide)).mono ?_
    rintro e w4 ⟨vo, rfl, hr4, hs4, ho4⟩
    obtain ⟨k, hk, hk0⟩ := two_close 0 ⟨(d + 1), b, 0⟩ ⟨(d + 1), a, 1⟩ rfl rfl
    rw [hk] at hr4
    rw [heavy_not a b d hd] at hk0
    have HS4 := Aside0.mk hs4
    obtain ⟨b4, cap, rfl, hcap, hcm⟩ := ownP_some (n := 0) hr4
    have HR4 := Aside0.mk hr4
    obtain ⟨k0, k1, k2⟩ := k
    simp only at hk0
    clear hs4 ho4 hr4 hk hcap hcm
    by_cases hab : a < b
    · have hd1 : decide (a < b) = true := decide_eq_true hab
      rw [hd1, if_pos rfl] at hk0
      subst hk0
      go_wp2_with fail
      refine (known_calls w w4 HS4.out.bel).mono ?_
      rintro e w5 ⟨rfl, ho5, hb5⟩
      obtain ⟨c0, c1, c2⟩ := rowP_get (ho5.own HR4.out (by decide) (by decide)) 0 _ rfl
      have HB5 := Aside0.mk hb5
      simp only [Nat.zero_mul, Nat.zero_add] at c0 c1 c2
      clear ho5 hb5
      go_wp2_with fail
      go_ret
      exact ⟨rfl, HB5.out⟩
    · have hd1 : decide (a < b) = false := decide_eq_false hab
      rw [hd1, if_neg (by simp)] at hk0
      subst hk0
      go_wp2_with fail
      refine (known_calls w w4 HS4.out.bel).mono ?_
      rintro e w5 ⟨rfl, ho5, hb5⟩
      obtain ⟨c0, c1, c2⟩ := rowP_get (ho5.own HR4.out (by decide) (by decide)) 0 _ rfl
      have HB5 := Aside0.mk hb5
      simp only [Nat.zero_mul, Nat.zero_add] at c0 c1 c2
      clear ho5 hb5
      go_wp2_with fail
      go_ret
      exact ⟨rfl, HB5.out⟩
end Go.Proofs.Ythlmgamdnclmhaa.A
