/- PrioAll: the walk. -/
import Derived.Test.YthlmgamdnclmhaaR0
namespace Go.Proofs.Ythlmgamdnclmhaa.A
open Go.RowKit Go.Proofs.YthlmgamdnclmhaaW.PrintWords Go.Proofs.YthlmgamdnclmhaaW.PrintLast Go.Proofs.YthlmgamdnclmhaaW.PrintMore Go.Proofs.Ythlmgamdnclmhaa.R
set_option linter.unusedVariables false
set_option linter.unusedSimpArgs false

/-- The offers of the first pairs. -/
def offN (M : Int) (l : List (Int × Int)) : Nat → List O
  | 0 => []
  | n + 1 => offN M l n ++ [⟨(l.getD n (0, 0)).1 + 1, drawL M (l.getD n (0, 0)).2, n⟩]
theorem offN_len (M : Int) (l : List (Int × Int)) : ∀ n, (offN M l n).length = n
  | 0 => rfl
  | n + 1 => by rw [offN, List.length_append, offN_len M l n]; rfl
theorem offN_get (M : Int) (l : List (Int × Int)) : ∀ (n i : Nat), i < n → (offN M l n)[i]? = some ⟨(l.getD i (0, 0)).1 + 1, drawL M (l.getD i (0, 0)).2, i⟩
  | n + 1, i, h => by
    rw [offN]
    rcases Nat.lt_or_ge i n with h1 | h1
    · rw [List.getElem?_append_left (by rw [offN_len]; exact h1)]
      exact offN_get M l n i h1
    · obtain rfl : i = n := by omega
      rw [List.getElem?_append_right (by rw [offN_len]; exact Nat.le_refl _), offN_len, Nat.sub_self]
      rfl
theorem closeS_all (keep M : Int) (L : List O) (h : (L.length : Int) ≤ keep) : closeS keep M L = L.map (fun o => ⟨o.f2, o.f0, 1⟩) := by
  unfold closeS
  have hf : fullL keep L = false := decide_eq_false (by omega)
  rw [hf, List.filter_eq_self.2 (fun b hb => decide_eq_true (by have := rank_lt hb; omega))]
  rfl
/-- What is read of a row of pairs at one place. -/
theorem PairsIn.get {w : World} {v : Value} {l : List (Int × Int)} (h : PairsIn w v l) {w' : World} (hb : Below w.heap.size w w') (i : Nat) (hi : i < l.length) :
    ∃ (ad : Addr) (cap : Nat) (x y : Int), v = .slice (some ad) l.length cap ∧ l.length ≤ cap ∧ l.getD i (0, 0) = (x, y) ∧ (0 ≤ x ∧ x ≤ 255) ∧ (0 ≤ y ∧ y ≤ 255) ∧ w'.cell? (ad.add (i * 2)) = some (.int .u8 x) ∧ w'.cell? ⟨(ad.add (i * 2)).block, (ad.add (i * 2)).off + 1, none⟩ = some (.int .u8 y) := by
  obtain ⟨a, cap, h1, h2, h3, h4⟩ := h
  obtain ⟨⟨hx, hy⟩, ad, h6, h7, h8⟩ := h4 i _ (List.getElem?_eq_getElem hi)
  subst h6
  refine ⟨ad, cap, l[i].1, l[i].2, h1, h2, ?_, hx, hy, pw_cell_below hb h7, ?_⟩
  · rw [List.getD_eq_getElem?_getD, List.getElem?_eq_getElem hi]; rfl
  · rw [← add_field _ _ 1 (by omega)]; exact pw_cell_below hb h8

set_option maxHeartbeats 8000000 in
set_option maxRecDepth 100000 in
theorem all_walk (v : Value) (l : List (Int × Int)) (M more : Int) (w : World) (hl : PairsIn w v l) (hM : 0 ≤ M ∧ M < K64) (hm : 0 ≤ more ∧ more ≤ 255) :
    Calls Try.prog 7 #[v, .int .u64 M, .int .u8 more] w fun e w' => e = .returned (.bool true) ∧ Below w.heap.size w w' := by
  obtain ⟨ao, cap, hv, hlc, _⟩ := id hl
  subst hv
  have Hl := Aside0.mk hl
  have HM := Aside0.mk hM
  have hmw : IntKind.i64.wrap more = more := by rw [IntKind.wrap_i64]; omega
  have hm0 := hm.1
  have hm1 := hm.2
  clear hl hM hm
  have Hk := Aside0.mk (known_calls w)
  by_cases h0 : l.length = 0
  · rw [h0]
    clear h0 hlc
    go_enter Try.func7, Try.ntmps7
    go_wp2_with fail
    refine (Hk.out w (Below.refl _ _)).mono ?_
    rintro e w1 ⟨rfl, ho1, hb1⟩
    have HB1 := Aside0.mk hb1
    clear ho1 hb1
    go_wp2_with fail
    go_ret
    exact ⟨rfl, HB1.out⟩
  · have t1 : ((l.length : Int) == 0) = false := beq_eq_false_iff_ne.2 (by omega)
    by_cases h60 : 60 < l.length
    · have t2 : decide (60 < (l.length : Int)) = true := decide_eq_true (by omega)
      clear h0 hlc
      go_enter Try.func7, Try.ntmps7
      go_wp2_with fail
      refine (Hk.out w (Below.refl _ _)).mono ?_
      rintro e w1 ⟨rfl, ho1, hb1⟩
      have HB1 := Aside0.mk hb1
      clear ho1 hb1
      go_wp2_with fail
      go_ret
      exact ⟨rfl, HB1.out⟩
    · have t2 : decide (60 < (l.length : Int)) = false := decide_eq_false (by omega)
      have hs : IntKind.i64.wrap ((l.length : Int) + more) = (l.length : Int) + more := by rw [IntKind.wrap_i64]; omega
      obtain ⟨keep, hkeep⟩ : ∃ k : Int, k = (l.length : Int) + more := ⟨_, rfl⟩
      rw [← hkeep] at hs
      have hk1 : 1 ≤ keep := by omega
      have hk2 : keep ≤ 1000 := by omega
      have Hkl := Aside0.mk (show (l.length : Int) ≤ keep by omega)
      have Hk2 := Aside0.mk (And.intro hk1 hk2)
      have hkeep' := hkeep.symm
      have hnl : l.length ≤ 60 := by omega
      clear hkeep hk1 hk2 h60
      go_enter Try.func7, Try.ntmps7
      go_wp2_with fail
      refine (New_SR w w keep M (Below.refl _ _) Hk2.out.1 Hk2.out.2).mono ?_
      rintro e w1 ⟨rfl, hs1, hb1⟩
      have HS1 := Aside0.mk hs1
      obtain ⟨g, hg⟩ : ∃ g, g = w.heap.size := ⟨_, rfl⟩
      rw [← hg] at HS1 ⊢
      clear hs1 hb1 hg
      go_wp2_with fail
      go_loopg [8] l.length (fun gk v8 wr => ∃ i : Nat, v8 = .int .i64 i ∧ Aside0 (i + gk = l.length) ∧ Aside0 (SR w wr g keep M (offN M l i)))
      case atStart => exact ⟨0, rfl, ⟨by omega⟩, HS1⟩
      case round =>
        obtain ⟨i, rfl, H1, H2⟩ := hrel
        by_cases hi : i < l.length
        · obtain ⟨ad, cap', x, y, hv', hlc', hxy, hx, hy, b0, b1⟩ := Hl.out.get (Below.refl _ _) i hi
          obtain ⟨hao, hcap⟩ : ao = some ad ∧ cap = cap' := by injection hv' with e1 e2 e3; exact ⟨e1, e3⟩
          subst hao hcap
          have c0 := pw_cell_below H2.out.bel b0
          have c1 := pw_cell_below H2.out.bel b1
          have HB0 := Aside0.mk (And.intro b0 b1)
          clear b0 b1
          have t3 : decide ((i : Int) < (l.length : Int)) = true := decide_eq_true (by omega)
          have u1 : IntKind.u64.wrap x = x := by rw [IntKind.wrap_u64]; omega
          have u2 : IntKind.u64.wrap y = y := by rw [IntKind.wrap_u64]; omega
          have u3 : IntKind.u64.wrap (x + 1) = x + 1 := by rw [IntKind.wrap_u64]; omega
          have u4 : IntKind.i64.wrap ((i : Int) + 1) = (i : Int) + 1 := by rw [IntKind.wrap_i64]; omega
          have hadd := Aside0.mk (fun wr' hs => Add_SR w wr' g keep M (x + 1) y (offN M l i) hs Hk2.out.1 Hk2.out.2 (by rw [offN_len]; omega) (by omega) (by omega) (by omega) (by unfold K64; omega) HM.out.1 HM.out.2)
          have hoff : offN M l (i + 1) = offN M l i ++ [⟨x + 1, drawL M y, ((offN M l i).length : Int)⟩] := by rw [offN, hxy, offN_len]
          have Hoff := Aside0.mk hoff
          clear hv' hxy hx hy hoff
          go_wp2_with fail
          go_region_held3 (fun w' => w'.cell? (ad.add (i * 2)) = some (.int .u8 x) ∧ w'.cell? ⟨(ad.add (i * 2)).block, (ad.add (i * 2)).off + 1, none⟩ = some (.int .u8 y))
            (first | exact ⟨d0, d1⟩ | exact ⟨c0, c1⟩)
            (first | (go_at_call 11; refine (hadd.out _ (H2.out.below (below_drew (Below.refl _ _)))).mono ?_; rintro e w2 ⟨rfl, hs2, ho2⟩; have HS2 := Aside0.mk hs2; have d0 := pw_cell_below hs2.bel HB0.out.1; have d1 := pw_cell_below hs2.bel HB0.out.2; clear hs2 ho2))
          go_wp2_with fail
          go_roundg (gk - 1)
          case measure => have := H1.out; omega
          case rel => exact ⟨i + 1, by simp, ⟨by have := H1.out; omega⟩, ⟨by rw [Hoff.out]; exact HS2.out⟩⟩
        · have t3 : decide ((i : Int) < (l.length : Int)) = false := decide_eq_false (by omega)
          obtain rfl : i = l.length := by have := H1.out; omega
          go_wp2_with fail
          refine (Close_SR w wr g keep M _ H2.out Hk2.out.1 Hk2.out.2 (by rw [offN_len]; omega) HM.out.1 HM.out.2).mono ?_
          rintro e w3 ⟨vo, rfl, hr3, hs3, ho3⟩
          rw [closeS_all keep M _ (by rw [offN_len]; exact Hkl.out)] at hr3
          have HS3 := Aside0.mk hs3
          have hlk : ((offN M l l.length).map (fun o => (⟨o.f2, o.f0, 1⟩ : K))).length = l.length := by rw [List.length_map, offN_len]
          rw [hlk] at hr3
          obtain ⟨n, hn⟩ : ∃ n, l.length = n + 1 := ⟨l.length - 1, by omega⟩
          obtain ⟨b, cap5, hvo, hcap5, _⟩ := ownP_some (n := n) (by rw [← hn]; exact hr3)
          rw [← hn] at hvo hcap5
          subst hvo
          have HR3 := Aside0.mk hr3
          clear hs3 ho3 hr3 hlk hn
          go_wp2_with fail
          go_loopg [10] l.length (fun gk v10 wx => ∃ j : Nat, v10 = .int .i64 j ∧ Aside0 (j + gk = l.length) ∧ Aside0 (Below w3.heap.size w3 wx))
          case atStart => exact ⟨0, rfl, ⟨by omega⟩, ⟨Below.refl _ _⟩⟩
          case round =>
            obtain ⟨j, rfl, H4, H5⟩ := hrel
            by_cases hj : j < l.length
            · obtain ⟨ad, cap', x, y, hv', hlc', hxy, hx, hy, b0, b1⟩ := Hl.out.get (Below.refl _ _) j hj
              obtain ⟨hao, hcap⟩ : ao = some ad ∧ cap = cap' := by injection hv' with e1 e2 e3; exact ⟨e1, e3⟩
              subst hao hcap
              have hget : ((offN M l l.length).map (fun o => (⟨o.f2, o.f0, 1⟩ : K)))[j]? = some ⟨(j : Int), x + 1, 1⟩ := by rw [List.getElem?_map, offN_get M l _ j hj, hxy]; rfl
              obtain ⟨r0, r1, r2⟩ := rowP_get (pw_own_below HR3.out H5.out) j _ hget
              simp only at r0 r1 r2
              have hbx := below_then HS3.out.bel HS3.out.bel.size H5.out
              have c0 := pw_cell_below hbx b0
              have t3 : decide ((j : Int) < (l.length : Int)) = true := decide_eq_true (by omega)
              have u1 : IntKind.u64.wrap x = x := by rw [IntKind.wrap_u64]; omega
              have u3 : IntKind.u64.wrap (x + 1) = x + 1 := by rw [IntKind.wrap_u64]; omega
              have u4 : IntKind.i64.wrap ((j : Int) + 1) = (j : Int) + 1 := by rw [IntKind.wrap_i64]; omega
              clear hv' hxy hx hy b0 b1 hget hbx
              go_wp2_with fail
              go_quiet (fail)
              go_wp2_with fail
              go_roundg (gk - 1)
              case measure => have := H4.out; omega
              case rel => exact ⟨j + 1, by simp, ⟨by have := H4.out; omega⟩, ⟨pw_below_drewN H5.out nq⟩⟩
            · have t3 : decide ((j : Int) < (l.length : Int)) = false := decide_eq_false (by omega)
              go_wp2_with fail
              refine (Hk.out _ (below_then HS3.out.bel HS3.out.bel.size H5.out)).mono ?_
              rintro e w5 ⟨rfl, ho5, hb5⟩
              have HB5 := Aside0.mk hb5
              clear ho5 hb5
              go_wp2_with fail
              go_ret
              exact ⟨rfl, HB5.out⟩
end Go.Proofs.Ythlmgamdnclmhaa.A
