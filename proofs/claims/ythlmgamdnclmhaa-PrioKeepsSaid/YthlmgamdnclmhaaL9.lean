/- PrioKeeps: the walk. -/
import Derived.Test.YthlmgamdnclmhaaL8
namespace Go.Proofs.Ythlmgamdnclmhaa.A
open Go.RowKit Go.Proofs.YthlmgamdnclmhaaW.PrintWords Go.Proofs.YthlmgamdnclmhaaW.PrintLast Go.Proofs.YthlmgamdnclmhaaW.PrintMore Go.Proofs.Ythlmgamdnclmhaa.R
set_option linter.unusedVariables false
set_option linter.unusedSimpArgs false

theorem IntsIn.none_ (k : IntKind) (w : World) : IntsIn k w (.slice none 0 0) [] := ⟨none, 0, rfl, Nat.le_refl _, Nat.zero_le _, fun i x h => by simp at h⟩
set_option maxHeartbeats 8000000 in
set_option maxRecDepth 100000 in
theorem keeps_walk (v vw vr : Value) (l : List (Int × Int)) (ws rs : List Int) (kp M mm : Int) (w : World) (hl : PairsIn w v l) (hw : IntsIn .u64 w vw ws) (hr : IntsIn .u64 w vr rs) (hkp : 0 ≤ kp ∧ kp ≤ 255) (hM : 0 ≤ M ∧ M < K64) (hmm : 0 ≤ mm ∧ mm ≤ 255) :
    Calls Try.prog 5 #[.int .u8 kp, .int .u64 M, .int .u8 mm, v, vw, vr] w fun e w' => e = .returned (.bool true) ∧ Below w.heap.size w w' := by
  obtain ⟨ao, cap, hv, hlc, _⟩ := id hl
  obtain ⟨aw, capw, hvw, hlw, _⟩ := id hw
  obtain ⟨ar, capr, hvr, hlr, _⟩ := id hr
  subst hv hvw hvr
  have Hk := Aside0.mk (known_calls w)
  obtain ⟨kr, hkr⟩ : ∃ x, x = kp.tmod 6 := ⟨_, rfl⟩
  have hkr2 : kr = kp % 6 := by rw [hkr, Int.tmod_eq_emod_of_nonneg hkp.1]
  have hkr' := hkr.symm
  obtain ⟨mr, hmr⟩ : ∃ x, x = mm.tmod 12 := ⟨_, rfl⟩
  have hmr2 : mr = mm % 12 := by rw [hmr, Int.tmod_eq_emod_of_nonneg hmm.1]
  have hmr' := hmr.symm
  have u1 : IntKind.u8.wrap kr = kr := by rw [IntKind.wrap_u8]; omega
  have u2 : IntKind.i64.wrap kr = kr := by rw [IntKind.wrap_i64]; omega
  have u3 : IntKind.u8.wrap mr = mr := by rw [IntKind.wrap_u8]; omega
  have u4 : IntKind.u64.wrap mr = mr := by rw [IntKind.wrap_u64]; omega
  obtain ⟨keep, hkeep⟩ : ∃ x, x = 1 + kr := ⟨_, rfl⟩
  have u5 : IntKind.i64.wrap (1 + kr) = keep := by rw [IntKind.wrap_i64]; omega
  have hk : 1 ≤ keep ∧ keep ≤ 1000 := by omega
  have hmb : 0 ≤ mr ∧ mr < K64 := by unfold K64; omega
  have H1 := Aside0.mk (fun (h40 : l.length ≤ 40) (wx : World) (hb : Below w.heap.size w wx) => tells_calls w wx keep mr _ _ _ l [] [] hb hl (IntsIn.none_ .u64 w) (IntsIn.none_ .u64 w) h40 hk hmb)
  have H2 := Aside0.mk (fun (h40 : l.length ≤ 40) (wx : World) (hb : Below w.heap.size w wx) => tells_calls w wx keep M _ _ _ l ws rs hb hl hw hr h40 hk hM)
  have H3 := Aside0.mk (fun (h40 : l.length ≤ 40) (wx : World) (hb : Below w.heap.size w wx) => tells_calls w wx keep 0 _ _ _ l [] rs hb hl (IntsIn.none_ .u64 w) hr h40 hk ⟨Int.le_refl _, K64_pos⟩)
  clear hl hw hr hkp hM hmm hkr hkr2 hmr hmr2 hkeep hk hmb
  by_cases h1 : 40 < l.length
  · have t1 : decide (40 < l.length) = true := decide_eq_true h1
    have t2 : decide (40 < (l.length : Int)) = true := decide_eq_true (by omega)
    clear H1 H2 H3
    go_enter Try.func5, Try.ntmps5
    go_wp2_with fail
    refine (Hk.out w (Below.refl _ _)).mono ?_
    rintro e w1 ⟨rfl, ho1, hb1⟩
    have HB1 := Aside0.mk hb1
    clear ho1 hb1
    go_wp2_with fail
    go_ret
    exact ⟨rfl, HB1.out⟩
  · have t1 : decide (40 < l.length) = false := decide_eq_false h1
    have t2 : decide (40 < (l.length : Int)) = false := decide_eq_false (by omega)
    have H40 := Aside0.mk (show l.length ≤ 40 by omega)
    by_cases h2 : 40 < rs.length
    · have t3 : decide (40 < rs.length) = true := decide_eq_true h2
      have t4 : decide (40 < (rs.length : Int)) = true := decide_eq_true (by omega)
      clear H1 H2 H3
      go_enter Try.func5, Try.ntmps5
      go_wp2_with fail
      refine (Hk.out w (Below.refl _ _)).mono ?_
      rintro e w1 ⟨rfl, ho1, hb1⟩
      have HB1 := Aside0.mk hb1
      clear ho1 hb1
      go_wp2_with fail
      go_ret
      exact ⟨rfl, HB1.out⟩
    · have t3 : decide (40 < rs.length) = false := decide_eq_false h2
      have t4 : decide (40 < (rs.length : Int)) = false := decide_eq_false (by omega)
      clear h1 h2
      go_enter Try.func5, Try.ntmps5
      go_wp2_with fail
      refine (Hk.out w (Below.refl _ _)).mono ?_
      rintro e w1 ⟨rfl, ho1, hb1⟩
      have HB1 := Aside0.mk hb1
      clear ho1 hb1
      go_wp2_with fail
      refine (H1.out H40.out w1 HB1.out).mono ?_
      rintro e w2 ⟨rfl, hb2⟩
      have HB2 := Aside0.mk hb2
      clear hb2
      go_wp2_with fail
      refine (H2.out H40.out w2 HB2.out).mono ?_
      rintro e w3 ⟨rfl, hb3⟩
      have HB3 := Aside0.mk hb3
      clear hb3
      go_wp2_with fail
      refine (H3.out H40.out w3 HB3.out).mono ?_
      rintro e w4 ⟨rfl, hb4⟩
      have HB4 := Aside0.mk hb4
      clear hb4
      go_wp2_with fail
      go_ret
      exact ⟨rfl, HB4.out⟩
end Go.Proofs.Ythlmgamdnclmhaa.A
