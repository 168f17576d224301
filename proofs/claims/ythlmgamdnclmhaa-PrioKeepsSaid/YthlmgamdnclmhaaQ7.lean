/- PrioKeeps: THE STATEMENT. For every input the law returns true and its arguments read as they did. -/
import Derived.Test.YthlmgamdnclmhaaL9
import Derived.Test.YthlmgamdnclmhaaR0
namespace Go.Proofs.Ythlmgamdnclmhaa.A
open Go.ChangeShapes Go.WideShapes Go.ChangeAt Go.RowKit
set_option linter.unusedVariables false

set_option maxRecDepth 100000 in
theorem prioKeeps_lifted (os : Os) (started : os.Started) (H : Type) (enc : TypeId × Value → H) :
    ReturnsInHanded {} Try.checked os 5 .any (Rows.prioKeepsSpec.pre6 enc Try.prog Try.f5 Rows.prioKeepsRow.domain false) (Rows.prioKeepsSpec.post enc Try.prog Try.f5 false true false false) := by
  refine returnsInHanded_of_change (C := Try.checked) own started (by kernel_rfl) Try.func5
    (ChangeSpec.witness6 (enc := enc) (C := Try.checked) false ⟨#[], #[.int .u8 0, .int .u64 0, .int .u8 0, .slice none 0 0, .slice none 0 0, .slice none 0 0], []⟩ 8 (by kernel_rfl) (by kernel_rfl) (by kernel_rfl) (by kernel_rfl)) ?_
  intro W base args ds gs before hval0 hW hcnd _
  have hval : ∀ (j : Nat) t v, Try.f5.params[j]? = some t → args[j]? = some v → Value.okWide Try.prog W .any base t v := hval0
  have hW' := hW
  obtain ⟨p, q, hA0, hV, rfl, hfz, hnd⟩ := hW
  have hA : DataW.TrodAll enc Try.prog W 0 (fun _ => true) true Try.f5.params.toList args.toList ds p := hA0
  rw [Try.params5] at hA hval
  obtain ⟨v0, vs0, d0, ds0, p0, q0, hargs, rfl, rfl, t0, r0⟩ := trodAll_cons hA
  obtain ⟨v1, vs1, d1, ds1, p1, q1, rfl, rfl, rfl, t1, r1⟩ := trodAll_cons r0
  obtain ⟨v2, vs2, d2, ds2, p2, q2, rfl, rfl, rfl, t2, r2⟩ := trodAll_cons r1
  obtain ⟨v3, vs3, d3, ds3, p3, q3, rfl, rfl, rfl, t3, r3⟩ := trodAll_cons r2
  obtain ⟨v4, vs4, d4, ds4, p4, q4, rfl, rfl, rfl, t4, r4⟩ := trodAll_cons r3
  obtain ⟨v5, vs5, d5, ds5, p5, q5, rfl, rfl, rfl, t5, r5⟩ := trodAll_cons r4
  obtain ⟨rfl, rfl, rfl⟩ := trodAll_nil r5
  obtain rfl : args = #[v0, v1, v2, v3, v4, v5] := by cases args; simp_all
  obtain ⟨rfl, rfl⟩ := trodVars_none hV
  obtain ⟨a0, rfl, rfl, rfl, h0⟩ := open_int Try.underlying5 (hval 0 5 v0 rfl rfl) t0
  obtain ⟨a1, rfl, rfl, rfl, h1⟩ := open_int Try.underlying24 (hval 1 24 v1 rfl rfl) t1
  obtain ⟨a2, rfl, rfl, rfl, h2⟩ := open_int Try.underlying5 (hval 2 5 v2 rfl rfl) t2
  have lt3 : ∀ x ∈ p3, x.block < W.heap.size := by obtain ⟨m, hm⟩ := t3; exact DataW.trod_lt m _ _ _ hm
  obtain ⟨l3, h3⟩ := pairs_in (t0 := 5) (t1 := 5) Try.underlying35 Try.underlying37 (by kernel_rfl) rfl rfl (by kernel_rfl) (by kernel_rfl) Try.underlying5 Try.underlying5 (hval 3 35 v3 rfl rfl) t3
  have lt4 : ∀ x ∈ p4, x.block < W.heap.size := by obtain ⟨m, hm⟩ := t4; exact DataW.trod_lt m _ _ _ hm
  obtain ⟨l4, h4⟩ := ints_in Try.underlying40 Try.underlying24 (by kernel_rfl) (hval 4 40 v4 rfl rfl) t4
  have lt5 : ∀ x ∈ p5, x.block < W.heap.size := by obtain ⟨m, hm⟩ := t5; exact DataW.trod_lt m _ _ _ hm
  obtain ⟨l5, h5⟩ := ints_in Try.underlying40 Try.underlying24 (by kernel_rfl) (hval 5 40 v5 rfl rfl) t5
  clear hA0 hval0
  refine (keeps_walk _ _ _ l3 l4 l5 a0 a1 a2 W h3 h4 h5 (in_u8 h0) (in_u64 h1) (in_u8 h2)).mono fun e W' ⟨he, bel⟩ => ?_
  subst he
  exact ⟨_, rfl, _, _, _, [], _, [], hW', trodAll_mk1 (shut_bool Try.underlying4 _), (trodAll_cons_mk (shut_int Try.underlying5 h0) (trodAll_cons_mk (shut_int Try.underlying24 h1) (trodAll_cons_mk (shut_int Try.underlying5 h2) (trodAll_cons_mk (Below.trod laidOut (by kernel_rfl) (of_decide_eq_true (by kernel_rfl)) t3 bel lt3) (trodAll_cons_mk (Below.trod laidOut (by kernel_rfl) (of_decide_eq_true (by kernel_rfl)) t4 bel lt4) (trodAll_cons_mk (Below.trod laidOut (by kernel_rfl) (of_decide_eq_true (by kernel_rfl)) t5 bel lt5) trodAll_mk0)))))), rfl, bel.frame _, fun h => by cases h⟩
theorem prioKeeps_over : Rows.prioKeepsRow.holds Try.pinned (OpenSpec.ofChange Rows.prioKeepsSpec) :=
  OpenClaim.holds_of_wide 5 Try.f5 rfl rfl rfl rfl rfl rfl rfl ⟨rfl, rfl, rfl, rfl, rfl⟩ rfl rfl rfl rfl rfl (by kernel_rfl) Try.func5 (by kernel_rfl)
    (of_decide_eq_true (by kernel_rfl)) (by unfold Func.isWrapper; first | (rw [if_pos (by decide +kernel)]; kernel_rfl) | (rw [if_neg (by decide +kernel)]; exact ⟨rfl, rfl⟩))
    (fun os started H enc _ => prioKeeps_lifted os started H enc)
end Go.Proofs.Ythlmgamdnclmhaa.A
namespace Go.Proofs.Ythlmgamdnclmhaa
/-- The statement. -/
theorem prioKeeps_holds : Rows.PrioKeepsSaid := A.prioKeeps_over
#print axioms prioKeeps_holds
end Go.Proofs.Ythlmgamdnclmhaa
