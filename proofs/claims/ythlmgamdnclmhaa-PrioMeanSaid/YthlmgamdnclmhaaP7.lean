/- Plain: how many are kept. -/
import Derived.Test.YthlmgamdnclmhaaPP
namespace Go.Proofs.Ythlmgamdnclmhaa.A
open Go Go.Proofs.Ythlmgamdnclmhaa.R
theorem keptN {keep M : Int} {l L : List O} (hk : 0 ≤ keep) (h : Inv keep l L) : ((closeS keep M L).length : Int) = if keep < L.length then keep else L.length := by
  rw [← (closeL_perm (M := M) hk h).length_eq]
  have hf := fullL_eq h
  obtain ⟨rest, hr1, hr2, hr3⟩ := h.ex
  have hl := hr1.length_eq
  rw [List.length_append] at hl
  have hlen := h.len
  unfold closeL restL
  rw [List.length_map, hf]
  by_cases hc : keep < L.length
  · rw [if_pos hc]
    have : fullL keep L = true := decide_eq_true hc
    rw [this, if_pos rfl, List.length_dropLast, popR_len]
    rw [← hf] at this
    have h2 : keep < l.length := of_decide_eq_true this
    omega
  · rw [if_neg hc]
    have : fullL keep L = false := decide_eq_false hc
    rw [this, if_neg (by simp)]
    by_cases h2 : (l.length : Int) < keep + 1
    · rw [hr3 h2] at hl
      simp at hl
      omega
    · omega
end Go.Proofs.Ythlmgamdnclmhaa.A
