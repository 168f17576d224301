/- known: it holds. -/
import Derived.Test.YthlmgamdnclmhaaSS
namespace Go.Proofs.Ythlmgamdnclmhaa.A
open Go.RowKit Go.Proofs.YthlmgamdnclmhaaW.PrintWords Go.Proofs.YthlmgamdnclmhaaW.PrintLast Go.Proofs.YthlmgamdnclmhaaW.PrintMore Go.Proofs.Ythlmgamdnclmhaa.R
set_option linter.unusedVariables false
set_option linter.unusedSimpArgs false

theorem known_kept : closeS 1 2 [⟨1, 0, 0⟩, ⟨1, 1, 1⟩] = [⟨0, 1, 1⟩] := by kernel_rfl
/-- What a row of kept ones is read as. -/
theorem rowP_get {w : World} {base b n cap : Nat} {l : List K} (h : w.ownsRow base 33 3 (.slice (some ⟨b, 0, none⟩) n cap) n (flatP l)) (i : Nat) (x : K) (hx : l[i]? = some x) :
    w.cell? ⟨b, i * 3, none⟩ = some (.int .i64 x.f0) ∧ w.cell? ⟨b, i * 3 + 1, none⟩ = some (.int .u64 x.f1) ∧ w.cell? ⟨b, i * 3 + 2, none⟩ = some (.int .u64 x.f2) := by
  obtain ⟨cur, hb, _, hl, hnc, hcm, hs, ht⟩ := ownP_open h
  have hi : i < n := by rw [← hl]; exact (List.getElem?_eq_some_iff.1 hx).1
  have key : ∀ c, c < 3 → cur[i * 3 + c]? = (encK x)[c]? := fun c hc => by
    rw [← flatP_get l i c x hx hc, ← ht, List.getElem?_take_of_lt (by omega), Array.getElem?_toList, Nat.mul_comm]
  exact ⟨(blk_cell hb _).trans (key 0 (by omega)), (blk_cell hb _).trans (key 1 (by omega)), (blk_cell hb _).trans (key 2 (by omega))⟩
theorem ownP_some {w : World} {v : Value} {base n : Nat} {xs : List Value} (h : w.ownsRow base 33 3 v (n + 1) xs) : ∃ b cap, v = .slice (some ⟨b, 0, none⟩) (n + 1) cap ∧ n + 1 ≤ cap ∧ cap ≤ maxLen := by
  obtain ⟨_, h2⟩ := h
  rcases h2 with ⟨_, h2⟩ | ⟨g, c, cur, h2, hg, hb, h3, h4, _⟩
  · omega
  · exact ⟨g, c, h2, h3, h4⟩
theorem Above_ok (a c b d : Int) (w : World) (ha : 0 ≤ a) (ha' : a < K64) (hc : 0 ≤ c) (hc' : c < K64) (hb : 0 ≤ b) (hb' : b < K64) (hd : 0 ≤ d) (hd' : d < K64) :
    Calls Try.prog 16 #[.int .u64 a, .int .u64 c, .int .u64 b, .int .u64 d] w fun e w' => e = .returned (.bool (decide (b * (c + 1) < a * (d + 1)))) ∧ Below w.heap.size w w' := by
  refine prio_Above.calls a c b d _ w ?_
  have n1 : prio_next.f a d = some (a * (d + 1) / K64, a * (d + 1) % K64) := if_pos ⟨⟨ha, ha'⟩, hd, hd'⟩
  have n2 : prio_next.f b c = some (b * (c + 1) / K64, b * (c + 1) % K64) := if_pos ⟨⟨hb, hb'⟩, hc, hc'⟩
  unfold prio_Above.f prio_wide_above.f
  rw [n1, n2]
  simp only [Option.bind_some, wide_lt]

set_option maxHeartbeats 4000000 in
set_option maxRecDepth 100000 in
theorem known_calls (w0 w : World) (hb : Below w0.heap.size w0 w) :
    Calls Try.prog 13 #[] w fun e w' => e = .returned (.bool true) ∧ Off w w' ∧ Below w0.heap.size w0 w' := by
  have HB := Aside0.mk hb
  clear hb
  go_enter Try.func13, Try.ntmps13
  go_wp2_with fail
  refine (New_SR w0 w 1 2 HB.out (by decide) (by decide)).mono ?_
  rintro e w1 ⟨rfl, hs1, hb1⟩
  have HS1 := Aside0.mk hs1
  have HO1 := Aside0.mk (Off.of_below hb1)
  obtain ⟨g, hg⟩ : ∃ g, g = w.heap.size := ⟨_, rfl⟩
  rw [← hg] at HS1 ⊢
  clear hs1 hb1 hg
  go_wp2_with fail
  refine (New_nil 0 2 w1 (by decide)).mono ?_
  rintro e w2 ⟨rfl, hb2⟩
  have HS2 := Aside0.mk (HS1.out.below hb2)
  have HO2 := Aside0.mk (HO1.out.trans (Off.of_below hb2))
  clear hb2
  go_wp2_with fail
  refine (New_nil 1001 2 w2 (by decide)).mono ?_
  rintro e w3 ⟨rfl, hb3⟩
  have HS3 := Aside0.mk (HS2.out.below hb3)
  have HO3 := Aside0.mk (HO2.out.trans (Off.of_below hb3))
  clear hb3
  go_wp2_with fail
  refine (Add_SR w0 w3 g 1 2 1 0 [] HS3.out (by decide) (by decide) (by decide) (by decide) (by decide) (by decide) (by decide) (by decide) (by decide)).mono ?_
  rintro e w4 ⟨rfl, hs4, ho4⟩
  have HS4 := Aside0.mk hs4
  have HO4 := Aside0.mk (HO3.out.trans ho4)
  clear hs4 ho4
  go_wp2_with fail
  refine (Add_SR w0 w4 g 1 2 1 1 _ HS4.out (by decide) (by decide) (by decide) (by decide) (by decide) (by decide) (by decide) (by decide) (by decide)).mono ?_
  rintro e w5 ⟨rfl, hs5, ho5⟩
  have HS5 := Aside0.mk hs5
  have HO5 := Aside0.mk (HO4.out.trans ho5)
  clear hs5 ho5
  go_wp2_with fail
  refine (AddBad_SR w0 w5 g 1 2 0 1 _ HS5.out (by decide)).mono ?_
  rintro e w6 ⟨rfl, hs6, hb6⟩
  have HS6 := Aside0.mk hs6
  have HO6 := Aside0.mk (HO5.out.trans (Off.of_below hb6))
  clear hs6 hb6
  go_wp2_with fail
  refine (Len_SR w0 w6 g 1 2 _ HS6.out).mono ?_
  rintro e w7 ⟨rfl, hs7, hb7⟩
  have HS7 := Aside0.mk hs7
  have HO7 := Aside0.mk (HO6.out.trans (Off.of_below hb7))
  clear hs7 hb7
  go_wp2_with fail
  refine (Close_SR w0 w7 g 1 2 _ HS7.out (by decide) (by decide) (by decide) (by decide) (by decide)).mono ?_
  rintro e w8 ⟨vo, rfl, hr8, hs8, ho8⟩
  have hkk : closeS 1 2 (([] ++ [⟨1, drawL 2 0, ([] : List O).length⟩]) ++ [⟨1, drawL 2 1, ([] ++ [(⟨1, drawL 2 0, ([] : List O).length⟩ : O)]).length⟩]) = [⟨0, 1, 1⟩] := by kernel_rfl
  rw [hkk] at hr8
  have HS8 := Aside0.mk hs8
  have HO8 := Aside0.mk (HO7.out.trans ho8)
  obtain ⟨b, cap, rfl, hcap, hcm⟩ := ownP_some (n := 0) hr8
  have HR8 := Aside0.mk hr8
  clear hs8 ho8 hr8 hkk hcap hcm
  go_wp2_with fail
  refine (Len_SR w0 w8 g 1 2 _ HS8.out).mono ?_
  rintro e w9 ⟨rfl, hs9, hb9⟩
  have HS9 := Aside0.mk hs9
  have HO9 := Aside0.mk (HO8.out.trans (Off.of_below hb9))
  obtain ⟨c0, c1, c2⟩ := rowP_get (pw_own_below HR8.out hb9) 0 ⟨0, 1, 1⟩ rfl
  clear hs9 hb9
  simp only [Nat.zero_mul, Nat.zero_add] at c0 c1 c2
  go_wp2_with fail
  refine (Above_ok 1 0 1 1 w9 (by decide) (by decide) (by decide) (by decide) (by decide) (by decide) (by decide) (by decide)).mono ?_
  rintro e w10 ⟨rfl, hb10⟩
  have HF := Aside0.mk (And.intro (HO9.out.trans (Off.of_below hb10)) ((HS9.out.below hb10).bel))
  clear hb10
  go_wp2_with fail
  go_ret
  exact ⟨rfl, HF.out⟩
end Go.Proofs.Ythlmgamdnclmhaa.A
