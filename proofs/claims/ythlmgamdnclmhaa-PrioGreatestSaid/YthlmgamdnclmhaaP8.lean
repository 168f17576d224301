/- Plain: how many are kept; who is kept. -/
import Derived.Test.YthlmgamdnclmhaaL4
namespace Go.Proofs.Ythlmgamdnclmhaa.A
open Go Go.Proofs.Ythlmgamdnclmhaa.R
theorem closeS_length {keep M : Int} {l L : List O} (hk : 0 ≤ keep) (h : Inv keep l L) : ((closeS keep M L).length : Int) = if keep < L.length then keep else L.length := by
  rw [← (closeL_perm (M := M) hk h).length_eq]
  have hf := fullL_eq h
  obtain ⟨rest, hr1, hr2, hr3⟩ := h.ex
  have hl := hr1.length_eq
  rw [List.length_append] at hl
  have hlen := h.len
  unfold closeL restL
  rw [List.length_map, hf]
  by_cases hc : keep < L.length
  · rw [if_pos hc]
    have : fullL keep L = true := decide_eq_true hc
    rw [this, if_pos rfl, List.length_dropLast, popR_len]
    rw [← hf] at this
    have h2 : keep < l.length := of_decide_eq_true this
    omega
  · rw [if_neg hc]
    have : fullL keep L = false := decide_eq_false hc
    rw [this, if_neg (by simp)]
    by_cases h2 : (l.length : Int) < keep + 1
    · rw [hr3 h2] at hl
      simp at hl
      omega
    · omega
/-- The places that are kept. -/
def isKept (keep : Int) (L : List O) (i : Nat) : Bool := match L[i]? with
  | some o => decide ((rank L o : Int) < keep)
  | none => false
theorem closeS_get {keep M : Int} {L : List O} (hp : Places L) {j : Nat} {k : K} (h : (closeS keep M L)[j]? = some k) : ∃ i : Nat, k.f0 = i ∧ i < L.length ∧ isKept keep L i = true := by
  have hm := List.mem_of_getElem? h
  unfold closeS at hm
  obtain ⟨o, ho, rfl⟩ := List.mem_map.1 hm
  rw [List.mem_filter] at ho
  obtain ⟨i, hi, rfl⟩ := List.getElem_of_mem ho.1
  refine ⟨i, ?_, hi, ?_⟩
  · rw [tellK_place, hp i _ (List.getElem?_eq_getElem hi)]
  · unfold isKept
    rw [List.getElem?_eq_getElem hi]
    exact ho.2
theorem kept_get {keep M : Int} {L : List O} (hp : Places L) {i : Nat} (hi : isKept keep L i = true) : ∃ k ∈ closeS keep M L, k.f0 = i := by
  unfold isKept at hi
  cases h : L[i]? with
  | none => rw [h] at hi; cases hi
  | some o =>
    rw [h] at hi
    refine ⟨tellK (fullL keep L) M (barS keep L) o, ?_, by rw [tellK_place]; exact hp i o h⟩
    unfold closeS
    exact List.mem_map.2 ⟨o, List.mem_filter.2 ⟨List.mem_of_getElem? h, hi⟩, rfl⟩
/-- Of those that are not kept none is above one that is. -/
theorem kept_above {keep : Int} {L : List O} (hok : AllOk L) {i j : Nat} {x y : O} (hx : L[i]? = some x) (hy : L[j]? = some y) (hi : isKept keep L i = false) (hj : isKept keep L j = true) : ¬ y.f0 * (x.f1 + 1) < x.f0 * (y.f1 + 1) := by
  intro h
  unfold isKept at hi hj
  rw [hx] at hi
  rw [hy] at hj
  have hi := of_decide_eq_false hi
  have hj := of_decide_eq_true hj
  have hxy : aboveB x y = true := (above_iff x y).2 (.inl h)
  have : rank L x ≤ rank L y := by
    unfold rank
    apply List.countP_mono_left
    intro z hz hzx
    exact above_trans (hok z hz) (hok x (List.mem_of_getElem? hx)) (hok y (List.mem_of_getElem? hy)) hzx hxy
  omega
end Go.Proofs.Ythlmgamdnclmhaa.A
