/- PrioAgain: the walk. -/
import Derived.Test.YthlmgamdnclmhaaL4
namespace Go.Proofs.Ythlmgamdnclmhaa.A
open Go.RowKit Go.Proofs.YthlmgamdnclmhaaW.PrintWords Go.Proofs.YthlmgamdnclmhaaW.PrintLast Go.Proofs.YthlmgamdnclmhaaW.PrintMore Go.Proofs.Ythlmgamdnclmhaa.R
set_option linter.unusedVariables false
set_option linter.unusedSimpArgs false

/-- How many are kept, as three of the laws choose it. -/
theorem keep8 (kp : Int) (h0 : 0 ≤ kp) (h1 : kp ≤ 255) : 0 ≤ kp.tmod 8 ∧ kp.tmod 8 ≤ 7 ∧ IntKind.i64.wrap (kp.tmod 8) = kp.tmod 8 ∧ IntKind.i64.wrap (1 + kp.tmod 8) = 1 + kp.tmod 8 := by
  have e : kp.tmod 8 = kp % 8 := Int.tmod_eq_emod_of_nonneg h0
  rw [e]
  refine ⟨by omega, by omega, by rw [IntKind.wrap_i64]; omega, by rw [IntKind.wrap_i64]; omega⟩

set_option maxHeartbeats 8000000 in
set_option maxRecDepth 100000 in
theorem again_walk (v : Value) (l : List (Int × Int)) (kp M : Int) (w : World) (hl : PairsIn w v l) (hkp : 0 ≤ kp ∧ kp ≤ 255) (hM : 0 ≤ M ∧ M < K64) :
    Calls Try.prog 4 #[v, .int .u8 kp, .int .u64 M] w fun e w' => e = .returned (.bool true) ∧ Below w.heap.size w w' := by
  obtain ⟨ao, cap, hv, hlc, _⟩ := id hl
  subst hv
  have Hl := Aside0.mk hl
  have HM := Aside0.mk hM
  obtain ⟨k0, k1, k2, k3⟩ := keep8 kp hkp.1 hkp.2
  obtain ⟨kr, hkr⟩ : ∃ x, x = kp.tmod 8 := ⟨_, rfl⟩
  rw [← hkr] at k0 k1 k2 k3
  have hkr' := hkr.symm
  obtain ⟨keep, hkeep⟩ : ∃ x, x = 1 + kr := ⟨_, rfl⟩
  rw [← hkeep] at k3
  have hkeep' := hkeep.symm
  have Hk2 := Aside0.mk (show 1 ≤ keep ∧ keep ≤ 1000 by omega)
  have Hk := Aside0.mk (known_calls w)
  have hkp0 := hkp.1
  clear hl hM hkp hkr hkeep
  go_enter Try.func4, Try.ntmps4
  go_wp2_with fail
  refine (New_SR w w keep M (Below.refl _ _) Hk2.out.1 Hk2.out.2).mono ?_
  rintro e w1 ⟨rfl, hs1, hb1⟩
  have HS1 := Aside0.mk hs1
  obtain ⟨g, hg⟩ : ∃ g, g = w.heap.size := ⟨_, rfl⟩
  rw [← hg] at HS1 ⊢
  clear hs1 hb1 hg
  by_cases h60 : 60 < l.length
  · have t2 : decide (60 < (l.length : Int)) = true := decide_eq_true (by omega)
    go_wp2_with fail
    refine (Hk.out w1 HS1.out.bel).mono ?_
    rintro e w2 ⟨rfl, ho2, hb2⟩
    have HB2 := Aside0.mk hb2
    clear ho2 hb2
    go_wp2_with fail
    go_ret
    exact ⟨rfl, HB2.out⟩
  · have t2 : decide (60 < (l.length : Int)) = false := decide_eq_false (by omega)
    have hnl : l.length ≤ 60 := by omega
    clear h60
    go_wp2_with fail
    refine (known_calls w1 w1 (Below.refl _ _)).mono ?_
    rintro e w2 ⟨rfl, ho2, hb2⟩
    have HS2 := Aside0.mk (HS1.out.below hb2)
    clear ho2 hb2
    go_wp2_with fail
    go_loopg [8] l.length (fun gk v8 wr => ∃ i : Nat, v8 = .int .i64 i ∧ Aside0 (i + gk = l.length) ∧ Aside0 (SR w wr g keep M (offN M l i)))
    case atStart => exact ⟨0, rfl, ⟨by omega⟩, HS2⟩
    case round =>
      obtain ⟨i, rfl, H1, H2⟩ := hrel
      by_cases hi : i < l.length
      · obtain ⟨ad, cap', x, y, hv', hlc', hxy, hx, hy, b0, b1⟩ := Hl.out.get (Below.refl _ _) i hi
        obtain ⟨hao, hcap⟩ : ao = some ad ∧ cap = cap' := by injection hv' with e1 e2 e3; exact ⟨e1, e3⟩
        subst hao hcap
        have c0 := pw_cell_below H2.out.bel b0
        have c1 := pw_cell_below H2.out.bel b1
        have HB0 := Aside0.mk (And.intro b0 b1)
        clear b0 b1
        have t3 : decide ((i : Int) < (l.length : Int)) = true := decide_eq_true (by omega)
        have u1 : IntKind.u64.wrap x = x := by rw [IntKind.wrap_u64]; omega
        have u2 : IntKind.u64.wrap y = y := by rw [IntKind.wrap_u64]; omega
        have u3 : IntKind.u64.wrap (x + 1) = x + 1 := by rw [IntKind.wrap_u64]; omega
        have u4 : IntKind.i64.wrap ((i : Int) + 1) = (i : Int) + 1 := by rw [IntKind.wrap_i64]; omega
        have hadd := Aside0.mk (fun wr' hs => Add_SR w wr' g keep M (x + 1) y (offN M l i) hs Hk2.out.1 Hk2.out.2 (by rw [offN_len]; omega) (by omega) (by omega) (by omega) (by unfold K64; omega) HM.out.1 HM.out.2)
        have hoff : offN M l (i + 1) = offN M l i ++ [⟨x + 1, drawL M y, ((offN M l i).length : Int)⟩] := by rw [offN, hxy, offN_len]
        have Hoff := Aside0.mk hoff
        clear hv' hxy hx hy hoff
        go_wp2_with fail
        go_region_held3 (fun w' => w'.cell? (ad.add (i * 2)) = some (.int .u8 x) ∧ w'.cell? ⟨(ad.add (i * 2)).block, (ad.add (i * 2)).off + 1, none⟩ = some (.int .u8 y))
          (first | exact ⟨d0, d1⟩ | exact ⟨c0, c1⟩)
          (first | (go_at_call 11; refine (hadd.out _ (H2.out.below (below_drew (Below.refl _ _)))).mono ?_; rintro e w2 ⟨rfl, hs2, ho2⟩; have HS2 := Aside0.mk hs2; have d0 := pw_cell_below hs2.bel HB0.out.1; have d1 := pw_cell_below hs2.bel HB0.out.2; clear hs2 ho2))
        go_wp2_with fail
        go_roundg (gk - 1)
        case measure => have := H1.out; omega
        case rel => exact ⟨i + 1, by simp, ⟨by have := H1.out; omega⟩, ⟨by rw [Hoff.out]; exact HS2.out⟩⟩
      · have t3 : decide ((i : Int) < (l.length : Int)) = false := decide_eq_false (by omega)
        obtain rfl : i = l.length := by have := H1.out; omega
        go_wp2_with fail
        refine (Close_SR w wr g keep M _ H2.out Hk2.out.1 Hk2.out.2 (by rw [offN_len]; omega) HM.out.1 HM.out.2).mono ?_
        rintro e w3 ⟨vo, rfl, hr3, hs3, ho3⟩
        have HS3 := Aside0.mk hs3
        have HR3 := Aside0.mk hr3
        obtain ⟨ak, ck, rfl⟩ := own_slice hr3
        clear hs3 hr3 ho3
        go_wp2_with fail
        refine (Len_SR w w3 g keep M _ HS3.out).mono ?_
        rintro e w4 ⟨rfl, hs4, hb4⟩
        have HS4 := Aside0.mk hs4
        have HR4 := Aside0.mk (pw_own_below HR3.out hb4)
        clear hs4 hb4
        go_wp2_with fail
        refine (Close_SR w w4 g keep M _ HS4.out Hk2.out.1 Hk2.out.2 (by decide) HM.out.1 HM.out.2).mono ?_
        rintro e w5 ⟨vo, rfl, hr5, hs5, ho5⟩
        have HS5 := Aside0.mk hs5
        have HR5 := Aside0.mk (ho5.own HR4.out (by decide) (by decide))
        obtain ⟨a5, c5, rfl⟩ := own_slice hr5
        have hz : (closeS keep M []).length = 0 := rfl
        rw [hz]
        clear hs5 hr5 ho5 hz
        go_wp2_with fail
        obtain ⟨B0, hB0⟩ : ∃ B, B = w3.heap.size := ⟨_, rfl⟩
        go_loopg [10] l.length (fun gk v10 wx => ∃ i : Nat, v10 = .int .i64 i ∧ Aside0 (i + gk = l.length) ∧ Aside0 (SR w wx g keep M (offN M l i)) ∧ Aside0 (wx.ownsRow wr.heap.size 33 3 (.slice ak (closeS keep M (offN M l l.length)).length ck) (closeS keep M (offN M l l.length)).length (flatP (closeS keep M (offN M l l.length)))))
        case atStart => exact ⟨0, rfl, ⟨by omega⟩, HS5, HR5⟩
        case round =>
          obtain ⟨i, rfl, H6, H7, H8⟩ := hrel
          by_cases hi : i < l.length
          · obtain ⟨ad, cap', x, y, hv', hlc', hxy, hx, hy, b0, b1⟩ := Hl.out.get (Below.refl _ _) i hi
            obtain ⟨hao, hcap⟩ : ao = some ad ∧ cap = cap' := by injection hv' with e1 e2 e3; exact ⟨e1, e3⟩
            subst hao hcap
            have c0 := pw_cell_below H7.out.bel b0
            have c1 := pw_cell_below H7.out.bel b1
            have HB0 := Aside0.mk (And.intro b0 b1)
            clear b0 b1
            have t3 : decide ((i : Int) < (l.length : Int)) = true := decide_eq_true (by omega)
            have u1 : IntKind.u64.wrap x = x := by rw [IntKind.wrap_u64]; omega
            have u2 : IntKind.u64.wrap y = y := by rw [IntKind.wrap_u64]; omega
            have u3 : IntKind.u64.wrap (x + 1) = x + 1 := by rw [IntKind.wrap_u64]; omega
            have u4 : IntKind.i64.wrap ((i : Int) + 1) = (i : Int) + 1 := by rw [IntKind.wrap_i64]; omega
            have hadd := Aside0.mk (fun wr' hs => Add_SR w wr' g keep M (x + 1) y (offN M l i) hs Hk2.out.1 Hk2.out.2 (by rw [offN_len]; omega) (by omega) (by omega) (by omega) (by unfold K64; omega) HM.out.1 HM.out.2)
            rw [offN_len] at hadd
            have hoff : offN M l (i + 1) = offN M l i ++ [⟨x + 1, drawL M y, (i : Int)⟩] := by rw [offN, hxy]
            have Hoff := Aside0.mk hoff
            clear hv' hxy hx hy hoff
            go_wp2_with fail
            go_region_held3 (fun w' => w'.cell? (ad.add (i * 2)) = some (.int .u8 x) ∧ w'.cell? ⟨(ad.add (i * 2)).block, (ad.add (i * 2)).off + 1, none⟩ = some (.int .u8 y))
              (first | exact ⟨d0, d1⟩ | exact ⟨c0, c1⟩)
              (first | (go_at_call 11; refine (hadd.out _ (H7.out.below (below_drew (Below.refl _ _)))).mono ?_; rintro e w2 ⟨rfl, hs2, ho2⟩; have HS9 := Aside0.mk hs2; have HR9 := Aside0.mk (ho2.own (show (World.drew _).ownsRow _ _ _ _ _ _ from H8.out) (by decide) (by decide)); have d0 := pw_cell_below hs2.bel HB0.out.1; have d1 := pw_cell_below hs2.bel HB0.out.2; clear hs2 ho2))
            all_goals go_wp2_with fail
            all_goals go_roundg (gk - 1)
            all_goals first | (have := H6.out; omega) | exact ⟨i + 1, by simp, ⟨by have := H6.out; omega⟩, ⟨by rw [Hoff.out]; exact HS9.out⟩, HR9⟩
          · have t3 : decide ((i : Int) < (l.length : Int)) = false := decide_eq_false (by omega)
            obtain rfl : i = l.length := by have := H6.out; omega
            go_wp2_with fail
            refine (Close_SR w _ g keep M _ H7.out Hk2.out.1 Hk2.out.2 (by rw [offN_len]; omega) HM.out.1 HM.out.2).mono ?_
            rintro e w7 ⟨vo, rfl, hr7, hs7, ho7⟩
            have HS7 := Aside0.mk hs7
            have HB7 := Aside0.mk hr7
            have HA7 := Aside0.mk (ho7.own H8.out (by decide) (by decide))
            obtain ⟨a7, c7, rfl⟩ := own_slice hr7
            have hkl : (closeS keep M (offN M l l.length)).length ≤ 60 := Nat.le_trans (by unfold closeS; rw [List.length_map]; exact List.length_filter_le _ _) (by rw [offN_len]; exact hnl)
            obtain ⟨r, hr⟩ : ∃ r, r = closeS keep M (offN M l l.length) := ⟨_, rfl⟩
            rw [← hr] at HA7 HB7 hkl ⊢
            clear hs7 hr7 ho7 hr
            go_wp2_with fail
            go_loopg [14] r.length (fun gk v14 wx => ∃ j : Nat, v14 = .int .i64 j ∧ Aside0 (j + gk = r.length) ∧ Aside0 (Below w7.heap.size w7 wx))
            case atStart => exact ⟨0, rfl, ⟨by omega⟩, ⟨Below.refl _ _⟩⟩
            case round =>
              obtain ⟨j, rfl, H9, H10⟩ := hrel
              by_cases hj : j < r.length
              · obtain ⟨n, hn⟩ : ∃ n, r.length = n + 1 := ⟨r.length - 1, by omega⟩
                have hA := pw_own_below HA7.out H10.out
                have hB := pw_own_below HB7.out H10.out
                have hA' := hA
                have hB' := hB
                rw [hn] at hA' hB'
                obtain ⟨b1, k1', hv1, hc1, _⟩ := ownP_some hA'
                obtain ⟨b2, k2', hv2, hc2, _⟩ := ownP_some hB'
                obtain ⟨h1, h1'⟩ : ak = some ⟨b1, 0, none⟩ ∧ ck = k1' := by injection hv1 with e1 e2 e3; exact ⟨e1, e3⟩
                obtain ⟨h2, h2'⟩ : a7 = some ⟨b2, 0, none⟩ ∧ c7 = k2' := by injection hv2 with e1 e2 e3; exact ⟨e1, e3⟩
                subst h1 h1' h2 h2'
                obtain ⟨x, hx⟩ : ∃ x, r[j]? = some x := ⟨_, List.getElem?_eq_getElem hj⟩
                obtain ⟨p0, p1, p2⟩ := rowP_get hA j x hx
                obtain ⟨q0, q1, q2⟩ := rowP_get hB j x hx
                have hc1' : r.length ≤ ck := by omega
                have hc2' : r.length ≤ c7 := by omega
                obtain ⟨x0, x1, x2⟩ := x
                simp only at p0 p1 p2 q0 q1 q2
                have t3 : decide ((j : Int) < (r.length : Int)) = true := decide_eq_true (by omega)
                have u4 : IntKind.i64.wrap ((j : Int) + 1) = (j : Int) + 1 := by rw [IntKind.wrap_i64]; omega
                clear hA hB hA' hB' hv1 hv2 hx hn
                go_wp2_with fail
                go_quiet (fail)
                go_wp2_with fail
                go_roundg (gk - 1)
                case measure => have := H9.out; omega
                case rel => exact ⟨j + 1, by simp, ⟨by have := H9.out; omega⟩, ⟨pw_below_drewN H10.out nq⟩⟩
              · have t3 : decide ((j : Int) < (r.length : Int)) = false := decide_eq_false (by omega)
                go_wp2_with fail
                go_ret
                exact ⟨rfl, below_then HS7.out.bel HS7.out.bel.size H10.out⟩
end Go.Proofs.Ythlmgamdnclmhaa.A
