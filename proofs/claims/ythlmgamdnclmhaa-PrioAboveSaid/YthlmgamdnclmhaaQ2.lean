/- PrioAbove: THE STATEMENT. For every input the law returns true and its arguments read as they did. -/
import Derived.Test.YthlmgamdnclmhaaL3
import Derived.Test.YthlmgamdnclmhaaR0
namespace Go.Proofs.Ythlmgamdnclmhaa.A
open Go.ChangeShapes Go.WideShapes Go.ChangeAt Go.RowKit
set_option linter.unusedVariables false

set_option maxRecDepth 100000 in
theorem prioAbove_lifted (os : Os) (started : os.Started) (H : Type) (enc : TypeId × Value → H) :
    ReturnsInHanded {} Try.checked os 6 .any (Rows.prioAboveSpec.pre6 enc Try.prog Try.f6 Rows.prioAboveRow.domain false) (Rows.prioAboveSpec.post enc Try.prog Try.f6 false true false false) := by
  refine returnsInHanded_of_change (C := Try.checked) own started (by kernel_rfl) Try.func6
    (ChangeSpec.witness6 (enc := enc) (C := Try.checked) false ⟨#[], #[.int .u64 0, .int .u64 0, .int .u64 0, .int .u64 0, .int .u8 0, .int .u8 0, .int .u8 0, .int .u8 0], []⟩ 8 (by kernel_rfl) (by kernel_rfl) (by kernel_rfl) (by kernel_rfl)) ?_
  intro W base args ds gs before hval0 hW hcnd _
  have hval : ∀ (j : Nat) t v, Try.f6.params[j]? = some t → args[j]? = some v → Value.okWide Try.prog W .any base t v := hval0
  have hW' := hW
  obtain ⟨p, q, hA0, hV, rfl, hfz, hnd⟩ := hW
  have hA : DataW.TrodAll enc Try.prog W 0 (fun _ => true) true Try.f6.params.toList args.toList ds p := hA0
  rw [Try.params6] at hA hval
  obtain ⟨v0, vs0, d0, ds0, p0, q0, hargs, rfl, rfl, t0, r0⟩ := trodAll_cons hA
  obtain ⟨v1, vs1, d1, ds1, p1, q1, rfl, rfl, rfl, t1, r1⟩ := trodAll_cons r0
  obtain ⟨v2, vs2, d2, ds2, p2, q2, rfl, rfl, rfl, t2, r2⟩ := trodAll_cons r1
  obtain ⟨v3, vs3, d3, ds3, p3, q3, rfl, rfl, rfl, t3, r3⟩ := trodAll_cons r2
  obtain ⟨v4, vs4, d4, ds4, p4, q4, rfl, rfl, rfl, t4, r4⟩ := trodAll_cons r3
  obtain ⟨v5, vs5, d5, ds5, p5, q5, rfl, rfl, rfl, t5, r5⟩ := trodAll_cons r4
  obtain ⟨v6, vs6, d6, ds6, p6, q6, rfl, rfl, rfl, t6, r6⟩ := trodAll_cons r5
  obtain ⟨v7, vs7, d7, ds7, p7, q7, rfl, rfl, rfl, t7, r7⟩ := trodAll_cons r6
  obtain ⟨rfl, rfl, rfl⟩ := trodAll_nil r7
  obtain rfl : args = #[v0, v1, v2, v3, v4, v5, v6, v7] := by cases args; simp_all
  obtain ⟨rfl, rfl⟩ := trodVars_none hV
  obtain ⟨a0, rfl, rfl, rfl, h0⟩ := open_int Try.underlying24 (hval 0 24 v0 rfl rfl) t0
  obtain ⟨a1, rfl, rfl, rfl, h1⟩ := open_int Try.underlying24 (hval 1 24 v1 rfl rfl) t1
  obtain ⟨a2, rfl, rfl, rfl, h2⟩ := open_int Try.underlying24 (hval 2 24 v2 rfl rfl) t2
  obtain ⟨a3, rfl, rfl, rfl, h3⟩ := open_int Try.underlying24 (hval 3 24 v3 rfl rfl) t3
  obtain ⟨a4, rfl, rfl, rfl, h4⟩ := open_int Try.underlying5 (hval 4 5 v4 rfl rfl) t4
  obtain ⟨a5, rfl, rfl, rfl, h5⟩ := open_int Try.underlying5 (hval 5 5 v5 rfl rfl) t5
  obtain ⟨a6, rfl, rfl, rfl, h6⟩ := open_int Try.underlying5 (hval 6 5 v6 rfl rfl) t6
  obtain ⟨a7, rfl, rfl, rfl, h7⟩ := open_int Try.underlying5 (hval 7 5 v7 rfl rfl) t7
  clear hA0 hval0
  refine (above_walk a0 a1 a2 a3 a4 a5 a6 a7 (in_u64 h0) (in_u64 h1) (in_u64 h2) (in_u64 h3) (in_u8 h4) (in_u8 h5) (in_u8 h6) (in_u8 h7) W).mono fun e W' ⟨he, bel⟩ => ?_
  subst he
  exact ⟨_, rfl, _, _, _, [], _, [], hW', trodAll_mk1 (shut_bool Try.underlying4 _), (trodAll_cons_mk (shut_int Try.underlying24 h0) (trodAll_cons_mk (shut_int Try.underlying24 h1) (trodAll_cons_mk (shut_int Try.underlying24 h2) (trodAll_cons_mk (shut_int Try.underlying24 h3) (trodAll_cons_mk (shut_int Try.underlying5 h4) (trodAll_cons_mk (shut_int Try.underlying5 h5) (trodAll_cons_mk (shut_int Try.underlying5 h6) (trodAll_cons_mk (shut_int Try.underlying5 h7) trodAll_mk0)))))))), rfl, bel.frame _, fun h => by cases h⟩
theorem prioAbove_over : Rows.prioAboveRow.holds Try.pinned (OpenSpec.ofChange Rows.prioAboveSpec) :=
  OpenClaim.holds_of_wide 6 Try.f6 rfl rfl rfl rfl rfl rfl rfl ⟨rfl, rfl, rfl, rfl, rfl⟩ rfl rfl rfl rfl rfl (by kernel_rfl) Try.func6 (by kernel_rfl)
    (of_decide_eq_true (by kernel_rfl)) (by unfold Func.isWrapper; first | (rw [if_pos (by decide +kernel)]; kernel_rfl) | (rw [if_neg (by decide +kernel)]; exact ⟨rfl, rfl⟩))
    (fun os started H enc _ => prioAbove_lifted os started H enc)
end Go.Proofs.Ythlmgamdnclmhaa.A
namespace Go.Proofs.Ythlmgamdnclmhaa
/-- The statement. -/
theorem prioAbove_holds : Rows.PrioAboveSaid := A.prioAbove_over
#print axioms prioAbove_holds
end Go.Proofs.Ythlmgamdnclmhaa
