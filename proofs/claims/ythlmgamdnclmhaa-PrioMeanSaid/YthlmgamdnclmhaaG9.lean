/- PrioMean: what its walk needs of the numbers. -/
import Derived.Test.YthlmgamdnclmhaaR0
import Derived.Test.YthlmgamdnclmhaaP9
import Derived.Test.YthlmgamdnclmhaaP7
namespace Go.Proofs.Ythlmgamdnclmhaa.A
open Go.RowKit Go.Proofs.YthlmgamdnclmhaaW.PrintWords Go.Proofs.YthlmgamdnclmhaaW.PrintLast Go.Proofs.YthlmgamdnclmhaaW.PrintMore Go.Proofs.Ythlmgamdnclmhaa.R
set_option linter.unusedVariables false

/-- What is read of a row of small numbers at one place. -/
theorem IntsIn.get8 {w : World} {v : Value} {l : List Int} (h : IntsIn .u8 w v l) (i : Nat) (hi : i < l.length) :
    ∃ (ad : Addr) (cap : Nat), v = .slice (some ad) l.length cap ∧ l.length ≤ cap ∧ (0 ≤ l.getD i 0 ∧ l.getD i 0 ≤ 255) ∧ w.cell? (ad.add i) = some (.int .u8 (l.getD i 0)) := by
  obtain ⟨a, cap, h1, h2, h3, h4⟩ := h
  obtain ⟨hx, ad, h6, h7⟩ := h4 i _ (List.getElem?_eq_getElem hi)
  subst h6
  have e : l.getD i 0 = l[i] := by rw [List.getD_eq_getElem?_getD, List.getElem?_eq_getElem hi]; rfl
  rw [e]
  exact ⟨ad, cap, h1, h2, in_u8 hx, h7⟩
theorem IntsIn.small {w : World} {v : Value} {l : List Int} (h : IntsIn .u8 w v l) (i : Nat) : 0 ≤ l.getD i 0 ∧ l.getD i 0 ≤ 255 := by
  rcases Nat.lt_or_ge i l.length with hi | hi
  · obtain ⟨_, _, _, _, h5, _⟩ := h.get8 i hi
    exact h5
  · rw [List.getD_eq_getElem?_getD, List.getElem?_eq_none hi]
    exact ⟨Int.le_refl _, by decide⟩
/-- The weights. -/
def wtN (l : List Int) (i : Nat) : Int := (l.getD i 0) % 30 + 1
theorem wtN_bd (l : List Int) (i : Nat) : 1 ≤ wtN l i ∧ wtN l i ≤ 30 := by unfold wtN; omega
theorem lcm_ok (m : Nat) (h1 : 1 ≤ m) (h5 : m ≤ 5) : ∃ den : Int, (∀ w : World, Calls Try.prog 18 #[.int .u64 m] w fun e w' => e = .returned (.int .u64 den) ∧ Drawn0 w w') ∧ 0 < den ∧ den ≤ 60 ∧ ∀ t : Int, 1 ≤ t → t ≤ m → t ∣ den := by
  have key : ∀ (den : Int), telemeterlaw11_lcm.f 60 (m : Int) = some den → 0 < den → den ≤ 60 → (∀ t : Nat, t < 5 → t < m → ((t : Int) + 1) ∣ den) → ∃ den : Int, (∀ w : World, Calls Try.prog 18 #[.int .u64 m] w fun e w' => e = .returned (.int .u64 den) ∧ Drawn0 w w') ∧ 0 < den ∧ den ≤ 60 ∧ ∀ t : Int, 1 ≤ t → t ≤ m → t ∣ den := fun den hf h0 h60 hd =>
    ⟨den, fun w => telemeterlaw11_lcm.calls 60 m den w hf, h0, h60, fun t ht1 ht2 => by
      have := hd (t.toNat - 1) (by omega) (by omega)
      have e : ((t.toNat - 1 : Nat) : Int) + 1 = t := by omega
      rwa [e] at this⟩
  obtain rfl | rfl | rfl | rfl | rfl : m = 1 ∨ m = 2 ∨ m = 3 ∨ m = 4 ∨ m = 5 := by omega
  · exact key 1 (by kernel_rfl) (by decide) (by decide) (by decide)
  · exact key 2 (by kernel_rfl) (by decide) (by decide) (by decide)
  · exact key 6 (by kernel_rfl) (by decide) (by decide) (by decide)
  · exact key 12 (by kernel_rfl) (by decide) (by decide) (by decide)
  · exact key 60 (by kernel_rfl) (by decide) (by decide) (by decide)
theorem lo_step (W : Nat → Int) (m v i : Nat) (h1 : 1 ≤ m) : lo W (dig m v) (i + 1) = lo W (dig m v) i ++ [⟨W i, drawL m ((v / m ^ i % m : Nat) : Int), ((lo W (dig m v) i).length : Int)⟩] := by
  rw [lo, lo_len]
  have e : drawL (m : Int) ((v / m ^ i % m : Nat) : Int) = ((dig m v i : Nat) : Int) := by
    unfold drawL dig
    have : v / m ^ i % m < m := Nat.mod_lt _ h1
    rw [if_pos (by omega), Int.emod_eq_of_lt (by omega) (by omega)]
  rw [e]
theorem sumK_succ (den : Int) (l : List K) (j : Nat) (x : K) (h : l[j]? = some x) : sumK den l (j + 1) = sumK den l j + den / x.f2 * x.f1 := by
  unfold sumK
  rw [sm, List.getD_eq_getElem?_getD, h]
  rfl
theorem sumK_bd (den : Int) (l : List K) (hd : 0 < den) (hd6 : den ≤ 60) (h : ∀ x ∈ l, 0 < x.f2 ∧ 0 ≤ x.f1 ∧ x.f1 ≤ 150) : ∀ n : Nat, 0 ≤ sumK den l n ∧ sumK den l n ≤ n * 9000
  | 0 => ⟨Int.le_refl _, Int.le_refl _⟩
  | n + 1 => by
    obtain ⟨h1, h2⟩ := sumK_bd den l hd hd6 h n
    have hx : ∀ x : K, (0 < x.f2 ∧ 0 ≤ x.f1 ∧ x.f1 ≤ 150) → 0 ≤ den / x.f2 * x.f1 ∧ den / x.f2 * x.f1 ≤ 9000 := fun x hx => by
      have a1 : 0 ≤ den / x.f2 := Int.ediv_nonneg (by omega) (by omega)
      have a2 : den / x.f2 ≤ 60 := Int.le_trans (Int.ediv_le_self _ (by omega)) hd6
      refine ⟨Int.mul_nonneg a1 hx.2.1, ?_⟩
      exact Int.le_trans (Int.mul_le_mul a2 hx.2.2 hx.2.1 (by decide)) (by decide)
    rcases Nat.lt_or_ge n l.length with hn | hn
    · rw [sumK_succ den l n _ (List.getElem?_eq_getElem hn)]
      have := hx _ (h _ (List.getElem_mem hn))
      omega
    · have e : sumK den l (n + 1) = sumK den l n := by
        unfold sumK
        rw [sm, List.getD_eq_getElem?_getD, List.getElem?_eq_none hn]
        show _ + den / 0 * 0 = _
        omega
      rw [e]
      omega
theorem sm_bd (f : Nat → Int) (b : Int) : ∀ n : Nat, (∀ i, i < n → 0 ≤ f i ∧ f i ≤ b) → 0 ≤ sm n f ∧ sm n f ≤ n * b
  | 0, _ => ⟨Int.le_refl _, by rw [sm]; omega⟩
  | n + 1, h => by
    obtain ⟨h1, h2⟩ := sm_bd f b n (fun i hi => h i (by omega))
    have := h n (by omega)
    rw [sm, Int.natCast_add, Int.add_mul]
    omega
end Go.Proofs.Ythlmgamdnclmhaa.A
