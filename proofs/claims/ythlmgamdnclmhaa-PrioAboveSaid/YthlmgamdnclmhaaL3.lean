/- PrioAbove: the walk. -/
import Derived.Test.YthlmgamdnclmhaaL1
import Derived.Test.YthlmgamdnclmhaaF1
namespace Go.Proofs.Ythlmgamdnclmhaa.A
open Go.RowKit Go.Proofs.YthlmgamdnclmhaaW.PrintWords Go.Proofs.YthlmgamdnclmhaaW.PrintLast Go.Proofs.YthlmgamdnclmhaaW.PrintMore Go.Proofs.Ythlmgamdnclmhaa.R
set_option linter.unusedVariables false
set_option linter.unusedSimpArgs false

def AboveOk (fn : FuncId) (a c b d : Int) (t : Bool) : Prop := ∀ w0 w : World, Below w0.heap.size w0 w → Calls Try.prog fn #[.int .u64 a, .int .u64 c, .int .u64 b, .int .u64 d] w fun e w' => e = .returned (.bool t) ∧ Below w0.heap.size w0 w'
theorem above_ok {a c b d : Int} {t : Bool} (ha : 0 ≤ a) (ha' : a < K64) (hc : 0 ≤ c) (hc' : c < K64) (hb : 0 ≤ b) (hb' : b < K64) (hd : 0 ≤ d) (hd' : d < K64) (ht : decide (b * (c + 1) < a * (d + 1)) = t) : AboveOk 16 a c b d t :=
  fun w0 w h => (Above_ok a c b d w ha ha' hc hc' hb hb' hd hd').mono fun e w' ⟨he, hb⟩ => ⟨by rw [he, ht], below_then h h.size hb⟩
theorem refabove_ok {a c b d : Int} {t : Bool} (ha : 0 ≤ a) (ha' : a < K64) (hc : 0 ≤ c) (hc' : c < K64) (hb : 0 ≤ b) (hb' : b < K64) (hd : 0 ≤ d) (hd' : d < K64) (ht : decide (b * (c + 1) < a * (d + 1)) = t) : AboveOk 17 a c b d t :=
  fun w0 w h => (telemeterref11_Above.calls a c b d t w (by rw [ref_Above a c b d ha ha' hc hc' hb hb' hd hd', ht])).mono fun e w' ⟨he, hb⟩ => ⟨he, below_then h h.size hb.below⟩

set_option maxHeartbeats 8000000 in
set_option maxRecDepth 100000 in
/-- The rest of the walk, all tests decided. -/
theorem above_rest (a c b d e f g h c2 : Int) (t1 X : Bool) (w : World) (ha : 0 ≤ a)
    (HX : Aside0 (AboveOk 16 e f g h X)) (H1 : Aside0 (AboveOk 16 a c b d t1)) (HR : Aside0 (AboveOk 17 a c b d t1)) (H2 : Aside0 (t1 = true → AboveOk 16 b d a c false)) (H3 : Aside0 (AboveOk 16 a c a c false)) (H4 : Aside0 (AboveOk 16 a c a c2 (decide (0 < a) && decide (0 < c2))))
    (u1 : IntKind.u64.wrap e = e) (u2 : IntKind.u64.wrap f = f) (u3 : IntKind.u64.wrap g = g) (u4 : IntKind.u64.wrap h = h) (i1 : IntKind.i64.wrap e = e) (i2 : IntKind.i64.wrap f = f) (i3 : IntKind.i64.wrap g = g) (i4 : IntKind.i64.wrap h = h)
    (s1 : IntKind.i64.wrap (h + 1) = h + 1) (s2 : IntKind.i64.wrap (f + 1) = f + 1) (m1 : IntKind.i64.wrap (e * (h + 1)) = e * (h + 1)) (m2 : IntKind.i64.wrap (g * (f + 1)) = g * (f + 1)) (hX : decide (g * (f + 1) < e * (h + 1)) = X) (hc2 : IntKind.u64.wrap (c + 1) = c2) :
    Calls Try.prog 6 #[.int .u64 a, .int .u64 c, .int .u64 b, .int .u64 d, .int .u8 e, .int .u8 f, .int .u8 g, .int .u8 h] w fun e w' => e = .returned (.bool true) ∧ Below w.heap.size w w' := by
  obtain ⟨p1, hp1⟩ : ∃ p, p = e * (h + 1) := ⟨_, rfl⟩
  obtain ⟨p2, hp2⟩ : ∃ p, p = g * (f + 1) := ⟨_, rfl⟩
  rw [← hp1] at m1 hX
  rw [← hp2] at m2 hX
  have hp1' := hp1.symm
  have hp2' := hp2.symm
  clear hp1 hp2
  obtain ⟨q1, hq1⟩ : ∃ q, q = decide (0 < a) := ⟨_, rfl⟩
  obtain ⟨q2, hq2⟩ : ∃ q, q = decide (0 < c2) := ⟨_, rfl⟩
  rw [← hq1, ← hq2] at H4
  have hq1' := hq1.symm
  have hq2' := hq2.symm
  clear hq1 hq2 ha
  cases t1 with
  | true =>
    have H2b := Aside0.mk (H2.out rfl)
    clear H2
    cases q1
    all_goals
      go_enter Try.func6, Try.ntmps6
      go_wp2_with fail
      refine (HX.out w w (Below.refl _ _)).mono ?_
      rintro e1 w1 ⟨rfl, hb1⟩
      have B1 := Aside0.mk hb1
      clear hb1
      go_wp2_with fail
      refine (known_calls w w1 B1.out).mono ?_
      rintro e2 w2 ⟨rfl, ho2, hb2⟩
      have B2 := Aside0.mk hb2
      clear hb2 ho2
      go_wp2_with fail
      refine (H1.out w w2 B2.out).mono ?_
      rintro e3 w3 ⟨rfl, hb3⟩
      have B3 := Aside0.mk hb3
      clear hb3
      go_wp2_with fail
      refine (HR.out w w3 B3.out).mono ?_
      rintro e4 w4 ⟨rfl, hb4⟩
      have B4 := Aside0.mk hb4
      clear hb4
      go_wp2_with fail
      refine (H1.out w w4 B4.out).mono ?_
      rintro e5 w5 ⟨rfl, hb5⟩
      have B5 := Aside0.mk hb5
      clear hb5
      go_wp2_with fail
      refine (H2b.out w w5 B5.out).mono ?_
      rintro e6 w6 ⟨rfl, hb6⟩
      have B6 := Aside0.mk hb6
      clear hb6
      go_wp2_with fail
      refine (H3.out w w6 B6.out).mono ?_
      rintro e7 w7 ⟨rfl, hb7⟩
      have B7 := Aside0.mk hb7
      clear hb7
      go_wp2_with fail
      refine (H4.out w w7 B7.out).mono ?_
      rintro e8 w8 ⟨rfl, hb8⟩
      have B8 := Aside0.mk hb8
      clear hb8
      go_wp2_with fail
      go_ret
      exact ⟨rfl, B8.out⟩
  | false =>
    cases q1
    all_goals
      go_enter Try.func6, Try.ntmps6
      go_wp2_with fail
      refine (HX.out w w (Below.refl _ _)).mono ?_
      rintro e1 w1 ⟨rfl, hb1⟩
      have B1 := Aside0.mk hb1
      clear hb1
      go_wp2_with fail
      refine (known_calls w w1 B1.out).mono ?_
      rintro e2 w2 ⟨rfl, ho2, hb2⟩
      have B2 := Aside0.mk hb2
      clear hb2 ho2
      go_wp2_with fail
      refine (H1.out w w2 B2.out).mono ?_
      rintro e3 w3 ⟨rfl, hb3⟩
      have B3 := Aside0.mk hb3
      clear hb3
      go_wp2_with fail
      refine (HR.out w w3 B3.out).mono ?_
      rintro e4 w4 ⟨rfl, hb4⟩
      have B4 := Aside0.mk hb4
      clear hb4
      go_wp2_with fail
      refine (H1.out w w4 B4.out).mono ?_
      rintro e5 w5 ⟨rfl, hb5⟩
      have B5 := Aside0.mk hb5
      clear hb5
      go_wp2_with fail
      refine (H3.out w w5 B5.out).mono ?_
      rintro e7 w7 ⟨rfl, hb7⟩
      have B7 := Aside0.mk hb7
      clear hb7
      go_wp2_with fail
      refine (H4.out w w7 B7.out).mono ?_
      rintro e8 w8 ⟨rfl, hb8⟩
      have B8 := Aside0.mk hb8
      clear hb8
      go_wp2_with fail
      go_ret
      exact ⟨rfl, B8.out⟩

theorem next_dec (a c : Int) (ha : 0 ≤ a) (hc : 0 ≤ c) (hc' : c < K64) : decide (a * (c + 1) < a * ((IntKind.u64.wrap (c + 1)) + 1)) = (decide (0 < a) && decide (0 < IntKind.u64.wrap (c + 1))) := by
  rw [Bool.eq_iff_iff, Bool.and_eq_true, decide_eq_true_eq, decide_eq_true_eq, decide_eq_true_eq]
  by_cases h : c + 1 = K64
  · have e : IntKind.u64.wrap (c + 1) = 0 := by rw [h]; rfl
    rw [e]
    have h1 : a * 1 ≤ a * (c + 1) := Int.mul_le_mul_of_nonneg_left (by omega) ha
    constructor
    · intro h2; rw [Int.zero_add] at h2; omega
    · rintro ⟨_, h2⟩; omega
  · have e : IntKind.u64.wrap (c + 1) = c + 1 := by rw [IntKind.wrap_u64]; unfold K64 at *; omega
    rw [e]
    have e2 : a * (c + 1 + 1) = a * (c + 1) + a := by rw [Int.mul_add a (c + 1) 1, Int.mul_one]
    rw [e2]
    constructor
    · intro h2; exact ⟨by omega, by omega⟩
    · rintro ⟨h2, _⟩; omega
theorem small_mul {x y : Int} (hx : 0 ≤ x) (hx' : x ≤ 255) (hy : 0 ≤ y) (hy' : y ≤ 256) : 0 ≤ x * y ∧ x * y ≤ 65280 :=
  ⟨Int.mul_nonneg hx hy, Int.mul_le_mul hx' hy' hy (by decide)⟩
theorem above_walk (a c b d e f g h : Int) (ha : 0 ≤ a ∧ a < K64) (hc : 0 ≤ c ∧ c < K64) (hb : 0 ≤ b ∧ b < K64) (hd : 0 ≤ d ∧ d < K64) (he : 0 ≤ e ∧ e ≤ 255) (hf : 0 ≤ f ∧ f ≤ 255) (hg : 0 ≤ g ∧ g ≤ 255) (hh : 0 ≤ h ∧ h ≤ 255) (w : World) :
    Calls Try.prog 6 #[.int .u64 a, .int .u64 c, .int .u64 b, .int .u64 d, .int .u8 e, .int .u8 f, .int .u8 g, .int .u8 h] w fun e w' => e = .returned (.bool true) ∧ Below w.heap.size w w' := by
  have k : ∀ x : Int, 0 ≤ x ∧ x ≤ 255 → x < K64 ∧ IntKind.u64.wrap x = x ∧ IntKind.i64.wrap x = x ∧ IntKind.i64.wrap (x + 1) = x + 1 := fun x hx => ⟨by unfold K64; omega, by rw [IntKind.wrap_u64]; omega, by rw [IntKind.wrap_i64]; omega, by rw [IntKind.wrap_i64]; omega⟩
  have hw : ∀ x : Int, 0 ≤ x ∧ x ≤ 65280 → IntKind.i64.wrap x = x := fun x hx => by rw [IntKind.wrap_i64]; omega
  have hc2 : 0 ≤ IntKind.u64.wrap (c + 1) ∧ IntKind.u64.wrap (c + 1) < K64 := by rw [IntKind.wrap_u64]; unfold K64; omega
  refine above_rest a c b d e f g h (IntKind.u64.wrap (c + 1)) (decide (b * (c + 1) < a * (d + 1))) (decide (g * (f + 1) < e * (h + 1))) w ha.1
    ⟨above_ok he.1 (k e he).1 hf.1 (k f hf).1 hg.1 (k g hg).1 hh.1 (k h hh).1 rfl⟩
    ⟨above_ok ha.1 ha.2 hc.1 hc.2 hb.1 hb.2 hd.1 hd.2 rfl⟩ ⟨refabove_ok ha.1 ha.2 hc.1 hc.2 hb.1 hb.2 hd.1 hd.2 rfl⟩
    ⟨fun ht => above_ok hb.1 hb.2 hd.1 hd.2 ha.1 ha.2 hc.1 hc.2 (by have := of_decide_eq_true ht; exact decide_eq_false (by omega))⟩
    ⟨above_ok ha.1 ha.2 hc.1 hc.2 ha.1 ha.2 hc.1 hc.2 (decide_eq_false (Int.lt_irrefl _))⟩
    ⟨above_ok ha.1 ha.2 hc.1 hc.2 ha.1 ha.2 hc2.1 hc2.2 (next_dec a c ha.1 hc.1 hc.2)⟩
    (k e he).2.1 (k f hf).2.1 (k g hg).2.1 (k h hh).2.1 (k e he).2.2.1 (k f hf).2.2.1 (k g hg).2.2.1 (k h hh).2.2.1 (k h hh).2.2.2 (k f hf).2.2.2
    (hw _ (small_mul he.1 he.2 (by omega) (by omega))) (hw _ (small_mul hg.1 hg.2 (by omega) (by omega))) rfl rfl
end Go.Proofs.Ythlmgamdnclmhaa.A
