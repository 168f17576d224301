/- What a row's arguments are read as: whole numbers, rows of them, rows of pairs of them. -/
import Derived.Test.YthlmgamdnclmhaaL1
import Derived.Test.YthlmgamdnclmhaaRows
import Derived.WalkKit
import Derived.ProofKit
import Derived.OpenShut
import Derived.Carry
import Derived.Deep.SlicePairs
namespace Go.Proofs.Ythlmgamdnclmhaa.A
open Go.RowKit Go.ChangeShapes Go.WideShapes Go.ChangeAt Go.Deep
set_option linter.unusedVariables false

theorem in_u8 {a : Int} (h : (Lit.int .u8 a).wf = true) : 0 ≤ a ∧ a ≤ 255 := by simpa [Lit.wf, IntKind.min, IntKind.max, IntKind.signed, IntKind.bits] using h
theorem in_u64 {a : Int} (h : (Lit.int .u64 a).wf = true) : 0 ≤ a ∧ a < Go.Proofs.Ythlmgamdnclmhaa.R.K64 := by
  have : 0 ≤ a ∧ a ≤ 18446744073709551615 := by simpa [Lit.wf, IntKind.min, IntKind.max, IntKind.signed, IntKind.bits] using h
  unfold Go.Proofs.Ythlmgamdnclmhaa.R.K64
  omega

/-- A row of whole numbers, as it is read. -/
def IntsIn (k : IntKind) (w : World) (v : Value) (l : List Int) : Prop :=
  ∃ (a : Option Addr) (cap : Nat), v = .slice a l.length cap ∧ l.length ≤ cap ∧ cap ≤ maxLen ∧ ∀ (i : Nat) (x : Int), l[i]? = some x → (Lit.int k x).wf = true ∧ ∃ ad, a = some ad ∧ w.cell? (ad.add i) = some (.int k x)
/-- A row of pairs of small numbers, as it is read. -/
def PairsIn (w : World) (v : Value) (l : List (Int × Int)) : Prop :=
  ∃ (a : Option Addr) (cap : Nat), v = .slice a l.length cap ∧ l.length ≤ cap ∧ cap ≤ maxLen ∧ ∀ (i : Nat) (x : Int × Int), l[i]? = some x → ((0 ≤ x.1 ∧ x.1 ≤ 255) ∧ 0 ≤ x.2 ∧ x.2 ≤ 255) ∧ ∃ ad, a = some ad ∧ w.cell? (ad.add (i * 2)) = some (.int .u8 x.1) ∧ w.cell? (ad.add (i * 2 + 1)) = some (.int .u8 x.2)
theorem PairsIn.below {w w' : World} {v : Value} {l : List (Int × Int)} (h : PairsIn w v l) (hb : Below w.heap.size w w') : PairsIn w' v l := by
  obtain ⟨a, cap, h1, h2, h3, h4⟩ := h
  refine ⟨a, cap, h1, h2, h3, fun i x hx => ?_⟩
  obtain ⟨h5, ad, h6, h7, h8⟩ := h4 i x hx
  exact ⟨h5, ad, h6, Go.Proofs.YthlmgamdnclmhaaW.PrintWords.pw_cell_below hb h7, Go.Proofs.YthlmgamdnclmhaaW.PrintWords.pw_cell_below hb h8⟩
theorem IntsIn.below {k : IntKind} {w w' : World} {v : Value} {l : List Int} (h : IntsIn k w v l) (hb : Below w.heap.size w w') : IntsIn k w' v l := by
  obtain ⟨a, cap, h1, h2, h3, h4⟩ := h
  refine ⟨a, cap, h1, h2, h3, fun i x hx => ?_⟩
  obtain ⟨h5, ad, h6, h7⟩ := h4 i x hx
  exact ⟨h5, ad, h6, Go.Proofs.YthlmgamdnclmhaaW.PrintWords.pw_cell_below hb h7⟩

def intOf : Value → Int
  | .int _ n => n
  | _ => 0

section
variable {H : Type} {enc : TypeId × Value → H} {P : Program} {w : World}
theorem ints_in {t e : TypeId} {k : IntKind} {base : Nat} {v : Value} {d : DataW H} {ps : List MemPlace} (ht : P.underlying t = some (.slice e)) (he : P.underlying e = some (.int k)) (hc : P.cellsOf e = 1)
    (hv : Value.okWide P w .any base t v) (h : DataW.Trod enc P w 0 (fun _ => true) true t v d ps) : ∃ l, IntsIn k w v l := by
  obtain ⟨a, len, cap, rfl⟩ := okWide_slice ht hv
  obtain ⟨fuel, hf⟩ := h
  rcases open_ints ht he hc hf with ⟨hcs, _⟩ | ⟨x, l, c, zs, hcs, _, hl, hm, hz, _, hcell, hwz⟩
  · simp [Value.cells] at hcs
    obtain ⟨rfl, rfl, rfl⟩ := hcs
    exact ⟨[], none, 0, rfl, Nat.le_refl _, Nat.zero_le _, fun i x h => by simp at h⟩
  · simp [Value.cells] at hcs
    obtain ⟨rfl, rfl, rfl⟩ := hcs
    have hz' : zs.length = cap := by simpa using hz
    have hlen : (zs.take len).length = len := by rw [List.length_take]; omega
    refine ⟨zs.take len, some x, cap, by rw [hlen], by rw [hlen]; exact hl, hm, fun i y hy => ?_⟩
    have hi : i < len := by rw [← hlen]; exact (List.getElem?_eq_some_iff.1 hy).1
    rw [List.getElem?_take_of_lt hi] at hy
    refine ⟨hwz y (List.mem_of_getElem? hy), x, rfl, ?_⟩
    rw [hcell i (by omega), List.getD_eq_getElem?_getD, hy]
    rfl
theorem pairs_in {t e t0 t1 : TypeId} {f0 f1 : Field} {base : Nat} {v : Value} {d : DataW H} {ps : List MemPlace} (ht : P.underlying t = some (.slice e)) (he : P.underlying e = some (.struct #[f0, f1]))
    (ce : P.cellsOf e = 2) (o0 : f0.offset = 0) (o1 : f1.offset = 1) (c0 : P.cellsOf f0.type = 1) (c1 : P.cellsOf f1.type = 1) (u0 : P.underlying f0.type = some (.int .u8)) (u1 : P.underlying f1.type = some (.int .u8))
    (hv : Value.okWide P w .any base t v) (h : DataW.Trod enc P w 0 (fun _ => true) true t v d ps) : ∃ l, PairsIn w v l := by
  obtain ⟨a, len, cap, rfl⟩ := okWide_slice ht hv
  obtain ⟨fuel, hf⟩ := h
  rcases open_slice_pairs ht he ce o0 o1 c0 c1 hf with ⟨hcs, _⟩ | ⟨x, l, c, m, n, V0, V1, D0, D1, P0, P1, hcs, _, hl, hm, hmm, _, hall⟩
  · simp [Value.cells] at hcs
    obtain ⟨rfl, rfl, rfl⟩ := hcs
    exact ⟨[], none, 0, rfl, Nat.le_refl _, Nat.zero_le _, fun i x h => by simp at h⟩
  · simp [Value.cells] at hcs
    obtain ⟨rfl, rfl, rfl⟩ := hcs
    have hmc : m = cap := by simpa using hmm
    have hlen : ((List.range len).map (fun i => (intOf (V0 i), intOf (V1 i)))).length = len := by simp
    refine ⟨(List.range len).map (fun i => (intOf (V0 i), intOf (V1 i))), some x, cap, by rw [hlen], by rw [hlen]; exact hl, hm, fun i y hy => ?_⟩
    have hi : i < len := by rw [← hlen]; exact (List.getElem?_eq_some_iff.1 hy).1
    rw [List.getElem?_map, List.getElem?_range hi] at hy
    simp only [Option.map_some, Option.some.injEq] at hy
    subst hy
    obtain ⟨hv0, hv1, ht0, ht1⟩ := hall i (by omega)
    obtain ⟨n0, e0, _, w0⟩ := DataW.trod_int u0 ht0
    obtain ⟨n1, e1, _, w1⟩ := DataW.trod_int u1 ht1
    simp only [List.cons.injEq, and_true] at e0 e1
    rw [e0] at hv0 ⊢
    rw [e1] at hv1 ⊢
    exact ⟨⟨in_u8 w0, in_u8 w1⟩, x, rfl, hv0, hv1⟩
end
theorem laidOut : laidOutB Try.prog = true := by kernel_rfl
theorem own : ownKnob Try.prog.godebug = none := by kernel_rfl
end Go.Proofs.Ythlmgamdnclmhaa.A
