/- PrioMean: the walk. -/
import Derived.Test.YthlmgamdnclmhaaG9
import Derived.Deep.RegionHeld3
namespace Go.Proofs.Ythlmgamdnclmhaa.A
open Go.RowKit Go.Proofs.YthlmgamdnclmhaaW.PrintWords Go.Proofs.YthlmgamdnclmhaaW.PrintLast Go.Proofs.YthlmgamdnclmhaaW.PrintMore Go.Proofs.Ythlmgamdnclmhaa.R
set_option linter.unusedVariables false
set_option linter.unusedSimpArgs false
attribute [local go_sem] max_two min_two

set_option maxHeartbeats 8000000 in
set_option maxRecDepth 100000 in
theorem mean_walk (v : Value) (l : List Int) (kp dr : Int) (w : World) (hl : IntsIn .u8 w v l) (hkp : 0 ≤ kp ∧ kp ≤ 255) (hdr : 0 ≤ dr ∧ dr ≤ 255) :
    Calls Try.prog 8 #[v, .int .u8 kp, .int .u8 dr] w fun e w' => e = .returned (.bool true) ∧ Below w.heap.size w w' := by
  obtain ⟨ao, cap, hv, hlc, _⟩ := id hl
  subst hv
  have Hl := Aside0.mk hl
  have Hk := Aside0.mk (known_calls w)
  obtain ⟨n, hn⟩ : ∃ n : Nat, n = if 4 < l.length then 4 else l.length := ⟨_, rfl⟩
  have hn4 : n ≤ 4 := by split at hn <;> omega
  have hnl : n ≤ l.length := by split at hn <;> omega
  have hmin : Builtin.min2 (.int .i64 (l.length : Int)) (.int .i64 4) = pure (.int .i64 (n : Int)) := by
    rw [min2_int]
    congr 2
    split at hn <;> split <;> omega
  obtain ⟨mr, hmr⟩ : ∃ x : Nat, (x : Int) = dr.tmod 5 := ⟨(dr % 5).toNat, by rw [Int.tmod_eq_emod_of_nonneg hdr.1]; omega⟩
  have hmr5 : mr ≤ 4 := by rw [Int.tmod_eq_emod_of_nonneg hdr.1] at hmr; omega
  obtain ⟨kr, hkr⟩ : ∃ x : Nat, (x : Int) = kp.tmod 3 := ⟨(kp % 3).toNat, by rw [Int.tmod_eq_emod_of_nonneg hkp.1]; omega⟩
  have hkr3 : kr ≤ 2 := by rw [Int.tmod_eq_emod_of_nonneg hkp.1] at hkr; omega
  have hmr' := hmr.symm
  have hkr' := hkr.symm
  have u1 : IntKind.u64.wrap (mr : Int) = (mr : Int) := by rw [IntKind.wrap_u64]; omega
  have u2 : IntKind.i64.wrap (kr : Int) = (kr : Int) := by rw [IntKind.wrap_i64]; omega
  obtain ⟨m, hm⟩ : ∃ m, m = 1 + mr := ⟨_, rfl⟩
  obtain ⟨mi, hmi⟩ : ∃ mi : Int, mi = (m : Int) := ⟨_, rfl⟩
  have u3 : IntKind.u64.wrap (1 + (mr : Int)) = mi := by rw [IntKind.wrap_u64]; omega
  have hmi0 : ¬ mi = 0 := by omega
  have hmi1 : 1 ≤ mi := by omega
  have hmi5 : mi ≤ 5 := by omega
  have Hmi := Aside0.mk hmi
  obtain ⟨k, hk⟩ : ∃ k, k = 1 + kr := ⟨_, rfl⟩
  have u4 : IntKind.i64.wrap (1 + (kr : Int)) = (k : Int) := by rw [IntKind.wrap_i64]; omega
  have u5 : IntKind.u8.wrap (mr : Int) = (mr : Int) := by rw [IntKind.wrap_u8]; omega
  have u6 : IntKind.u8.wrap (kr : Int) = (kr : Int) := by rw [IntKind.wrap_u8]; omega
  have hm1 : 1 ≤ m := by omega
  have hm5 : m ≤ 5 := by omega
  have hk1 : 1 ≤ k := by omega
  have hk3 : k ≤ 3 := by omega
  clear hn hmr hkr hmr5 hkr3 hm hk hl hkp hdr hmi
  by_cases hn0 : n = 0
  · have t1 : ((n : Int) == 0) = true := beq_iff_eq.2 (by omega)
    have t2 : (n == 0) = true := beq_iff_eq.2 hn0
    clear hn0
    go_enter Try.func8, Try.ntmps8
    go_wp2_with fail
    refine (Hk.out w (Below.refl _ _)).mono ?_
    rintro e w1 ⟨rfl, ho1, hb1⟩
    have HB1 := Aside0.mk hb1
    clear ho1 hb1
    go_wp2_with fail
    go_ret
    exact ⟨rfl, HB1.out⟩
  · have t1 : ((n : Int) == 0) = false := beq_eq_false_iff_ne.2 (by omega)
    have t2 : (n == 0) = false := beq_eq_false_iff_ne.2 hn0
    have HW := Aside0.mk (wtN_bd l)
    have HWs := Aside0.mk (show ∀ i, i ≤ n → 0 ≤ sm i (wtN l) ∧ sm i (wtN l) ≤ 120 from fun i hi => by
      obtain ⟨h1, h2⟩ := sm_bd (wtN l) 30 i (fun j _ => by have := wtN_bd l j; omega)
      exact ⟨h1, by omega⟩)
    have Hsm := Aside0.mk (fun i => IntsIn.small Hl.out i)
    go_enter Try.func8, Try.ntmps8
    go_wp2_with fail
    refine (Hk.out w (Below.refl _ _)).mono ?_
    rintro e w1 ⟨rfl, ho1, hb1⟩
    have HB1 := Aside0.mk hb1
    clear ho1 hb1
    go_wp2_with fail
    go_loopg [10, 11] n (fun gk v10 v11 wr => ∃ i : Nat, v11 = .int .i64 i ∧ v10 = .int .u64 (sm i (wtN l)) ∧ Aside0 (i + gk = n) ∧ Aside0 (Below w.heap.size w wr))
    case atStart => exact ⟨0, rfl, rfl, ⟨by omega⟩, HB1⟩
    case round =>
      obtain ⟨i, rfl, rfl, H1, H2⟩ := hrel
      by_cases hi : i < n
      · obtain ⟨ad, cap', hv', hlc', hx, b0⟩ := Hl.out.get8 i (by omega)
        obtain ⟨hao, hcap⟩ : ao = some ad ∧ cap = cap' := by injection hv' with e1 e2 e3; exact ⟨e1, e3⟩
        subst hao hcap
        have c0 := pw_cell_below H2.out b0
        have hil : i < l.length := by omega
        have t3 : decide ((i : Int) < (n : Int)) = true := decide_eq_true (by omega)
        have t4 : decide (i < n) = true := decide_eq_true hi
        have hs1 := HWs.out (i + 1) (by omega)
        have hs0 := HWs.out i (by omega)
        have hsu : sm (i + 1) (wtN l) = sm i (wtN l) + wtN l i := rfl
        obtain ⟨wi, hwi⟩ : ∃ x, x = wtN l i := ⟨_, rfl⟩
        obtain ⟨s0, hs⟩ : ∃ x, x = sm i (wtN l) := ⟨_, rfl⟩
        obtain ⟨li, hli⟩ : ∃ x, x = l.getD i 0 := ⟨_, rfl⟩
        have hwi' : wi = li % 30 + 1 := by rw [hwi, hli]; rfl
        rw [← hli] at c0 hx
        rw [← hs] at hs0 hsu ⊢
        rw [hsu, ← hwi] at hs1
        rw [← hwi] at hsu
        have HSU := Aside0.mk hsu
        obtain ⟨lr, hlr⟩ : ∃ x, x = li.tmod 30 := ⟨_, rfl⟩
        have hlr2 : lr = li % 30 := by rw [hlr, Int.tmod_eq_emod_of_nonneg hx.1]
        have hlr' := hlr.symm
        have y1 : IntKind.u8.wrap lr = lr := by rw [IntKind.wrap_u8]; omega
        have y2 : IntKind.u64.wrap lr = lr := by rw [IntKind.wrap_u64]; omega
        have y3 : IntKind.u64.wrap (lr + 1) = wi := by rw [IntKind.wrap_u64]; omega
        have y4 : IntKind.u64.wrap (s0 + wi) = s0 + wi := by rw [IntKind.wrap_u64]; omega
        have y5 : IntKind.i64.wrap ((i : Int) + 1) = (i : Int) + 1 := by rw [IntKind.wrap_i64]; omega
        clear hv' hx b0 hs1 hs0 hsu hwi hs hli hwi' hlr hlr2
        go_wp2_with fail
        go_roundg (gk - 1)
        case measure => have := H1.out; omega
        case rel => exact ⟨i + 1, by simp, by rw [HSU.out], ⟨by have := H1.out; omega⟩, H2⟩
      · have t3 : decide ((i : Int) < (n : Int)) = false := decide_eq_false (by omega)
        obtain rfl : n = i := by have := H1.out; omega
        obtain ⟨den, hden⟩ := lcm_ok m hm1 hm5
        obtain ⟨hd1, hd2, hd3, hd4⟩ := hden
        rw [← Hmi.out] at hd1
        have HD := Aside0.mk (And.intro hd2 (And.intro hd3 hd4))
        have HL := Aside0.mk hd1
        have hal := HWs.out n (Nat.le_refl _)
        obtain ⟨al, hal'⟩ : ∃ x, x = sm n (wtN l) := ⟨_, rfl⟩
        rw [← hal'] at hal ⊢
        have HAL := Aside0.mk (And.intro hal' hal)
        clear hd1 hd2 hd3 hd4 hal hal'
        have HP := Aside0.mk (show ∀ i, i ≤ 4 → m ^ i ≤ 625 from fun i hi => Nat.le_trans (Nat.pow_le_pow_left hm5 i) (Nat.le_trans (Nat.pow_le_pow_right (by decide) hi) (by decide)))
        go_wp2_with fail
        refine (HL.out _).mono ?_
        rintro e w2 ⟨rfl, hb2⟩
        have HB2 := Aside0.mk (below_then H2.out H2.out.size hb2.below)
        clear hb2
        go_wp2_with fail
        go_loopg [13, 14] n (fun gk v13 v14 wr => ∃ i P : Nat, v14 = .int .i64 i ∧ v13 = .int .u64 P ∧ Aside0 (P = m ^ i) ∧ Aside0 (i + gk = n) ∧ Aside0 (Below w.heap.size w wr))
        case atStart => exact ⟨0, 1, rfl, rfl, ⟨rfl⟩, ⟨by omega⟩, HB2⟩
        case round =>
          obtain ⟨i, P, rfl, rfl, H3, H4, H5⟩ := hrel
          by_cases hi : i < n
          · have t3 : decide ((i : Int) < (n : Int)) = true := decide_eq_true (by omega)
            have t4 : decide (i < n) = true := decide_eq_true hi
            have hp1 := HP.out (i + 1) (by omega)
            have hp2 : P * m = m ^ (i + 1) := by rw [H3.out]; rfl
            obtain ⟨P', hP'⟩ : ∃ x, x = P * m := ⟨_, rfl⟩
            have HP' := Aside0.mk (hP'.trans hp2)
            have hpi : (P : Int) * mi = (P' : Int) := by rw [Hmi.out, hP']; simp
            have y4 : IntKind.u64.wrap ((P : Int) * mi) = (P' : Int) := by rw [hpi, IntKind.wrap_u64]; omega
            have y5 : IntKind.i64.wrap ((i : Int) + 1) = (i : Int) + 1 := by rw [IntKind.wrap_i64]; omega
            clear hp1 hp2 hpi hP'
            go_wp2_with fail
            go_roundg (gk - 1)
            case measure => have := H4.out; omega
            case rel => exact ⟨i + 1, P', by simp, rfl, HP', ⟨by have := H4.out; omega⟩, H5⟩
          · have t3 : decide ((i : Int) < (n : Int)) = false := decide_eq_false (by omega)
            obtain rfl : n = i := by have := H4.out; omega
            have hPb : P ≤ 625 := by have := HP.out n hn4; have := H3.out; omega
            go_wp2_with fail
            go_loopg [15, 16] P (fun gk v15 v16 wr => ∃ (vv : Nat) (S : Int), v16 = .int .u64 vv ∧ v15 = .int .u64 S ∧ Aside0 (vv + gk = P) ∧ Aside0 (S = sm vv (fun v => sumK den (closeS k mi (lo (wtN l) (dig m v) n)) (closeS k mi (lo (wtN l) (dig m v) n)).length)) ∧ Aside0 (0 ≤ S ∧ S ≤ vv * 36000) ∧ Aside0 (Below w.heap.size w wr))
            case atStart => exact ⟨0, 0, rfl, rfl, ⟨by omega⟩, ⟨rfl⟩, ⟨by omega⟩, H5⟩
            case round =>
              obtain ⟨vv, S, rfl, rfl, H6, H7, H8, H9⟩ := hrel
              by_cases hv : vv < P
              · have t3 : decide ((vv : Int) < (P : Int)) = true := decide_eq_true (by omega)
                have t4 : decide (vv < P) = true := decide_eq_true hv
                obtain ⟨g0, hg0⟩ : ∃ x, x = gk := ⟨_, rfl⟩
                have HG0 := Aside0.mk hg0
                clear hg0
                go_wp2_with fail
                refine (New_SR w _ k mi H9.out (by omega) (by omega)).mono ?_
                rintro e w3 ⟨rfl, hs3, hb3⟩
                have HS3 := Aside0.mk hs3
                obtain ⟨g, hg⟩ : ∃ g, g = wr.heap.size := ⟨_, rfl⟩
                rw [← hg] at HS3 ⊢
                clear hs3 hb3 hg
                go_wp2_with fail
                go_loopg [18, 19] n (fun gk v18 v19 wr => ∃ (i : Nat) (x : Int), v19 = .int .i64 i ∧ v18 = .int .u64 x ∧ Aside0 (x = ((vv / m ^ i : Nat) : Int)) ∧ Aside0 (i + gk = n) ∧ Aside0 (SR w wr g k mi (lo (wtN l) (dig m vv) i)))
                case atStart => exact ⟨0, vv, rfl, rfl, ⟨by simp⟩, ⟨by omega⟩, HS3⟩
                case round =>
                  obtain ⟨i, x, rfl, rfl, H10, H11, H12⟩ := hrel
                  by_cases hi : i < n
                  · obtain ⟨ad, cap', hv', hlc', hx, b0⟩ := Hl.out.get8 i (by omega)
                    obtain ⟨hao, hcap⟩ : ao = some ad ∧ cap = cap' := by injection hv' with e1 e2 e3; exact ⟨e1, e3⟩
                    subst hao hcap
                    have c0 := pw_cell_below H12.out.bel b0
                    have HB0 := Aside0.mk b0
                    have hil : i < l.length := by omega
                    have t3 : decide ((i : Int) < (n : Int)) = true := decide_eq_true (by omega)
                    have t4 : decide (i < n) = true := decide_eq_true hi
                    obtain ⟨wi, hwi⟩ : ∃ x, x = wtN l i := ⟨_, rfl⟩
                    obtain ⟨li, hli⟩ : ∃ x, x = l.getD i 0 := ⟨_, rfl⟩
                    have hwi' : wi = li % 30 + 1 := by rw [hwi, hli]; rfl
                    rw [← hli] at c0 hx HB0
                    obtain ⟨lr, hlr⟩ : ∃ x, x = li.tmod 30 := ⟨_, rfl⟩
                    have hlr2 : lr = li % 30 := by rw [hlr, Int.tmod_eq_emod_of_nonneg hx.1]
                    have hlr' := hlr.symm
                    have y1 : IntKind.u8.wrap lr = lr := by rw [IntKind.wrap_u8]; omega
                    have y2 : IntKind.u64.wrap lr = lr := by rw [IntKind.wrap_u64]; omega
                    have y3 : IntKind.u64.wrap (lr + 1) = wi := by rw [IntKind.wrap_u64]; omega
                    have y5 : IntKind.i64.wrap ((i : Int) + 1) = (i : Int) + 1 := by rw [IntKind.wrap_i64]; omega
                    obtain ⟨xm, hxm⟩ : ∃ y, y = x.tmod mi := ⟨_, rfl⟩
                    obtain ⟨xd, hxd⟩ : ∃ y, y = x.tdiv mi := ⟨_, rfl⟩
                    have hxm2 : xm = ((vv / m ^ i % m : Nat) : Int) := by rw [hxm, H10.out, Hmi.out, Int.tmod_eq_emod_of_nonneg (Int.natCast_nonneg _)]; rfl
                    have hxd2 : xd = ((vv / m ^ (i + 1) : Nat) : Int) := by rw [hxd, H10.out, Hmi.out, Int.tdiv_eq_ediv_of_nonneg (Int.natCast_nonneg _), Nat.pow_succ, ← Nat.div_div_eq_div_mul]; rfl
                    have hxm' := hxm.symm
                    have hxd' := hxd.symm
                    have hxmb : 0 ≤ xm ∧ xm < 5 := by
                      have : vv / m ^ i % m < m := Nat.mod_lt _ hm1
                      omega
                    have hxdb : 0 ≤ xd ∧ xd ≤ 625 := by
                      have h1 : ((vv / m ^ (i + 1) : Nat) : Int) ≤ (vv : Int) := Int.ofNat_le.2 (Nat.div_le_self _ _)
                      have h2 : 0 ≤ ((vv / m ^ (i + 1) : Nat) : Int) := Int.natCast_nonneg _
                      rw [← hxd2] at h1 h2
                      omega
                    have y6 : IntKind.u64.wrap xm = xm := by rw [IntKind.wrap_u64]; omega
                    have y7 : IntKind.u64.wrap xd = xd := by rw [IntKind.wrap_u64]; omega
                    have hwib := HW.out i
                    rw [← hwi] at hwib
                    have hadd := Aside0.mk (fun wr' hs => Add_SR w wr' g k mi wi xm (lo (wtN l) (dig m vv) i) hs (by omega) (by omega) (by rw [lo_len]; omega) (by omega) (by omega) (by omega) (by unfold K64; omega) (by omega) (by unfold K64; omega))
                    have hlo := lo_step (wtN l) m vv i hm1
                    rw [← hxm2, ← hwi, ← Hmi.out] at hlo
                    have HLO := Aside0.mk hlo
                    have HXD := Aside0.mk hxd2
                    clear hv' hx b0 hli hwi hwi' hlr hlr2 hxm hxd hxm2 hxd2 hxmb hxdb hwib hlo
                    go_wp2_with fail
                    go_region_held3 (fun w' => w'.cell? (ad.add i) = some (.int .u8 li))
                      (first | exact d0 | exact c0)
                      (first | (go_at_call 11; refine (hadd.out _ (H12.out.below (below_drew (Below.refl _ _)))).mono ?_; rintro e w4 ⟨rfl, hs4, ho4⟩; have HS4 := Aside0.mk hs4; have d0 := pw_cell_below hs4.bel HB0.out; clear hs4 ho4))
                    go_wp2_with fail
                    go_roundg (gk - 1)
                    case measure => have := H11.out; omega
                    case rel => exact ⟨i + 1, xd, by simp, rfl, HXD, ⟨by have := H11.out; omega⟩, ⟨by rw [HLO.out]; exact HS4.out⟩⟩
                  · have t3 : decide ((i : Int) < (n : Int)) = false := decide_eq_false (by omega)
                    obtain rfl : n = i := by have := H11.out; omega
                    have hinv : ∃ lv, Inv k lv (lo (wtN l) (dig m vv) n) := by obtain ⟨_, lv, _, h, _⟩ := H12.out.out; exact ⟨lv, h⟩
                    obtain ⟨lv, hlv⟩ := hinv
                    have hkn := keptN (M := mi) (by omega) hlv
                    rw [lo_len] at hkn
                    have hrb := mean_kept (wtN l) (dig m vv) n m k den HW.out hm1 hm5 (fun j => dig_lt hm1 vv j) HD.out.2.2 HD.out.1
                    rw [← Hmi.out] at hrb
                    have hsb := sumK_bd den (closeS k mi (lo (wtN l) (dig m vv) n)) HD.out.1 HD.out.2.1 (fun x hx => by have := hrb x hx; exact ⟨this.1, this.2.2.2.1, this.2.2.2.2.1⟩)
                    go_wp2_with fail
                    refine (Close_SR w wr g k mi _ H12.out (by omega) (by omega) (by rw [lo_len]; omega) (by omega) (by unfold K64; omega)).mono ?_
                    rintro e w5 ⟨vo, rfl, hr5, hs5, ho5⟩
                    obtain ⟨r, hr⟩ : ∃ r, r = closeS k mi (lo (wtN l) (dig m vv) n) := ⟨_, rfl⟩
                    rw [← hr] at hr5 hkn hrb hsb
                    have HR := Aside0.mk hr
                    have HB5 := Aside0.mk hs5.bel
                    have HR5 := Aside0.mk hr5
                    obtain ⟨ak, ck, rfl⟩ := own_slice hr5
                    have hr4 : r.length ≤ n := by split at hkn <;> omega
                    have hmin2 : Builtin.min2 (.int .i64 (k : Int)) (.int .i64 (n : Int)) = pure (.int .i64 (r.length : Int)) := by
                      rw [min2_int]
                      congr 2
                      split at hkn <;> split <;> omega
                    have HRB := Aside0.mk hrb
                    have HSB := Aside0.mk hsb
                    clear hs5 hr5 ho5 hr hlv hkn hrb hsb
                    go_wp2_with fail
                    go_loopg [15, 21] r.length (fun gk v15 v21 wx => ∃ (j : Nat) (T : Int), v21 = .int .i64 j ∧ v15 = .int .u64 T ∧ Aside0 (j + gk = r.length) ∧ Aside0 (T = S + sumK den r j) ∧ Aside0 (Below w5.heap.size w5 wx))
                    case atStart => exact ⟨0, S, rfl, rfl, ⟨by omega⟩, ⟨by show S = S + 0; omega⟩, ⟨Below.refl _ _⟩⟩
                    case round =>
                      obtain ⟨j, T, rfl, rfl, H13, H14, H15⟩ := hrel
                      by_cases hj : j < r.length
                      · obtain ⟨rn, hrn⟩ : ∃ rn, r.length = rn + 1 := ⟨r.length - 1, by omega⟩
                        have hA := pw_own_below HR5.out H15.out
                        have hA' := hA
                        rw [hrn] at hA'
                        obtain ⟨b1, k1', hv1, hc1, _⟩ := ownP_some hA'
                        obtain ⟨h1, h1'⟩ : ak = some ⟨b1, 0, none⟩ ∧ ck = k1' := by injection hv1 with e1 e2 e3; exact ⟨e1, e3⟩
                        subst h1 h1'
                        obtain ⟨y, hy⟩ : ∃ y, r[j]? = some y := ⟨_, List.getElem?_eq_getElem hj⟩
                        obtain ⟨p0, p1, p2⟩ := rowP_get hA j y hy
                        obtain ⟨f1, f2, f3, f4, f5, p, f6, f7, f8⟩ := HRB.out y (List.mem_of_getElem? hy)
                        have hsu := sumK_succ den r j y hy
                        obtain ⟨pl, num, d⟩ := y
                        simp only at p0 p1 p2 f1 f2 f3 f4 f5 f7 f8 hsu
                        subst f7
                        obtain ⟨ad, cap', hv', hlc', hx, b0⟩ := Hl.out.get8 p (by omega)
                        obtain ⟨hao, hcap⟩ : ao = some ad ∧ cap = cap' := by injection hv' with e1 e2 e3; exact ⟨e1, e3⟩
                        subst hao hcap
                        have c0 := pw_cell_below (below_then HB5.out HB5.out.size H15.out) b0
                        have hpl : p < l.length := by omega
                        have hc1' : r.length ≤ ck := by omega
                        have t3 : decide ((j : Int) < (r.length : Int)) = true := decide_eq_true (by omega)
                        have t4 : decide (j < r.length) = true := decide_eq_true hj
                        have t5 : decide ((p : Int) < 0) = false := decide_eq_false (by omega)
                        have t6 : decide ((n : Int) ≤ (p : Int)) = false := decide_eq_false (by omega)
                        have t7 : decide (n ≤ p) = false := decide_eq_false (by omega)
                        have d0 : ¬ d = 0 := by omega
                        have d1 : (d == 0) = false := beq_eq_false_iff_ne.2 d0
                        have d2 : den.tmod d = 0 := by rw [Int.tmod_eq_emod_of_nonneg (Int.le_of_lt HD.out.1)]; exact Int.emod_eq_zero_of_dvd f2
                        obtain ⟨q, hq⟩ : ∃ q, q = den / d := ⟨_, rfl⟩
                        have d3 : den.tdiv d = q := by rw [hq, Int.tdiv_eq_ediv_of_nonneg (Int.le_of_lt HD.out.1)]
                        have hq0 : 0 ≤ q := by rw [hq]; exact Int.ediv_nonneg (Int.le_of_lt HD.out.1) (Int.le_of_lt f1)
                        have hq1 : q ≤ 60 := by rw [hq]; exact Int.le_trans (Int.ediv_le_self _ (Int.le_of_lt HD.out.1)) HD.out.2.1
                        obtain ⟨qn, hqn⟩ : ∃ x, x = q * num := ⟨_, rfl⟩
                        have hqn0 : 0 ≤ qn := by rw [hqn]; exact Int.mul_nonneg hq0 f4
                        have hqn1 : qn ≤ 9000 := by rw [hqn]; exact Int.le_trans (Int.mul_le_mul hq1 f5 f4 (by decide)) (by decide)
                        rw [← hq, ← hqn] at hsu
                        have hT := HSB.out j
                        have hT2 := H14.out
                        have hS := H8.out
                        have y1 : IntKind.u64.wrap q = q := by rw [IntKind.wrap_u64]; omega
                        have y2 : IntKind.u64.wrap (q * num) = qn := by rw [← hqn, IntKind.wrap_u64]; omega
                        have y3 : IntKind.u64.wrap (T + qn) = T + qn := by rw [IntKind.wrap_u64]; omega
                        obtain ⟨wi, hwi⟩ : ∃ x, x = wtN l p := ⟨_, rfl⟩
                        obtain ⟨li, hli⟩ : ∃ x, x = l.getD p 0 := ⟨_, rfl⟩
                        have hwi' : wi = li % 30 + 1 := by rw [hwi, hli]; rfl
                        rw [← hli] at c0 hx
                        rw [← hwi] at f8
                        obtain ⟨lr, hlr⟩ : ∃ x, x = li.tmod 30 := ⟨_, rfl⟩
                        have hlr2 : lr = li % 30 := by rw [hlr, Int.tmod_eq_emod_of_nonneg hx.1]
                        have hlr' := hlr.symm
                        have y4 : IntKind.u8.wrap lr = lr := by rw [IntKind.wrap_u8]; omega
                        have y5 : IntKind.u64.wrap lr = lr := by rw [IntKind.wrap_u64]; omega
                        have y6 : IntKind.u64.wrap (lr + 1) = wi := by rw [IntKind.wrap_u64]; omega
                        obtain ⟨wd, hwd⟩ : ∃ x, x = wi * d := ⟨_, rfl⟩
                        have hwd0 : 0 ≤ wd := by rw [hwd]; exact Int.mul_nonneg (by omega) (by omega)
                        rw [← hwd] at f8
                        have y7 : IntKind.u64.wrap (wi * d) = wd := by rw [← hwd, IntKind.wrap_u64]; omega
                        have t8 : decide (num < wd) = false := decide_eq_false (by omega)
                        have y8 : IntKind.i64.wrap ((j : Int) + 1) = (j : Int) + 1 := by rw [IntKind.wrap_i64]; omega
                        have HSU := Aside0.mk (show T + qn = S + sumK den r (j + 1) by rw [hsu, hT2]; omega)
                        clear hv1 hrn hA hA' hy f1 f2 f3 f4 f5 f6 f8 hsu hv' hx b0 hq hq0 hq1 hqn hqn0 hqn1 hT hT2 hS hwi hli hwi' hlr hlr2 hwd hwd0
                        go_wp2_with fail
                        go_big_quiet (fail)
                        go_wp2_with fail
                        go_big_quiet (fail)
                        go_wp2_with fail
                        go_roundg (gk - 1)
                        case measure => have := H13.out; omega
                        case rel => exact ⟨j + 1, T + qn, by simp, rfl, ⟨by have := H13.out; omega⟩, HSU, ⟨by first | exact pw_below_drewN (pw_below_drewN H15.out _) _ | exact pw_below_drewN H15.out _⟩⟩
                      · have t3 : decide ((j : Int) < (r.length : Int)) = false := decide_eq_false (by omega)
                        obtain rfl : r.length = j := by have := H13.out; omega
                        have hsb := HSB.out r.length
                        have hS' := H8.out
                        have hT := H14.out
                        have y8 : IntKind.u64.wrap ((vv : Int) + 1) = (vv : Int) + 1 := by rw [IntKind.wrap_u64]; omega
                        have HTB := Aside0.mk (show 0 ≤ T ∧ T ≤ ((vv + 1 : Nat) : Int) * 36000 by omega)
                        have HTS := Aside0.mk (show T = sm (vv + 1) (fun v => sumK den (closeS k mi (lo (wtN l) (dig m v) n)) (closeS k mi (lo (wtN l) (dig m v) n)).length) by rw [sm, ← H7.out, ← HR.out]; exact hT)
                        clear hsb hS' hT
                        go_wp2_with fail
                        go_roundg (g0 - 1)
                        case measure => have := H6.out; have := HG0.out; omega
                        case rel => exact ⟨vv + 1, T, by simp, rfl, ⟨by have := H6.out; have := HG0.out; omega⟩, HTS, HTB, ⟨below_then HB5.out HB5.out.size H15.out⟩⟩
              · have t3 : decide ((vv : Int) < (P : Int)) = false := decide_eq_false (by omega)
                obtain rfl : P = vv := by have := H6.out; omega
                obtain ⟨ap, hap⟩ : ∃ x, x = al * (P : Int) := ⟨_, rfl⟩
                obtain ⟨tot, htot⟩ : ∃ x, x = ap * den := ⟨_, rfl⟩
                have hal := HAL.out
                have hap0 : 0 ≤ ap := by rw [hap]; exact Int.mul_nonneg hal.2.1 (Int.natCast_nonneg _)
                have hap1 : ap ≤ 75000 := by rw [hap]; exact Int.le_trans (Int.mul_le_mul hal.2.2 (show (P : Int) ≤ 625 by omega) (Int.natCast_nonneg _) (by decide)) (by decide)
                have htot0 : 0 ≤ tot := by rw [htot]; exact Int.mul_nonneg hap0 (Int.le_of_lt HD.out.1)
                have htot1 : tot ≤ 4500000 := by rw [htot]; exact Int.le_trans (Int.mul_le_mul hap1 HD.out.2.1 (Int.le_of_lt HD.out.1) (by decide)) (by decide)
                have y1 : IntKind.u64.wrap (al * (P : Int)) = ap := by rw [← hap, IntKind.wrap_u64]; omega
                have y2 : IntKind.u64.wrap (ap * den) = tot := by rw [← htot, IntKind.wrap_u64]; omega
                have hS := H7.out
                have hfull : k < n → S ≤ tot := fun hkn => by
                  have h1 := mean_total (wtN l) n m k den HW.out hm1 hm5 HD.out.2.2 HD.out.1
                  rw [← H3.out, ← hal.1] at h1
                  rw [hS, htot, hap]
                  refine Int.le_trans (Int.le_of_eq ?_) h1
                  refine sm_congr P (fun v _ => ?_)
                  rw [Hmi.out]
                  exact sumK_full (wtN l) (dig m v) n k m den (by omega)
                have hfew : ¬ k < n → S = tot := fun hkn => by
                  rw [hS, htot, hap, sm_congr P (fun v _ => sumK_few (wtN l) (dig m v) n k mi den (by omega)), sm_const, ← hal.1]
                  ac_rfl
                have t5 : decide (S ≤ tot) = true := decide_eq_true (by
                  by_cases hkn : k < n
                  · exact hfull hkn
                  · exact Int.le_of_eq (hfew hkn))
                have HFW := Aside0.mk hfew
                by_cases hkn : k < n
                · have t6 : decide (k < n) = true := decide_eq_true hkn
                  have t7 : decide ((k : Int) < (n : Int)) = true := decide_eq_true (by omega)
                  clear hap htot hap0 hap1 htot0 htot1 hS hfull hfew hal
                  go_wp2_with fail
                  go_ret
                  exact ⟨rfl, H9.out⟩
                · have t6 : decide (k < n) = false := decide_eq_false hkn
                  have t7 : decide ((k : Int) < (n : Int)) = false := decide_eq_false (by omega)
                  have t8 : (S == tot) = true := beq_iff_eq.2 (HFW.out hkn)
                  clear hap htot hap0 hap1 htot0 htot1 hS hfull hfew hal
                  go_wp2_with fail
                  go_ret
                  exact ⟨rfl, H9.out⟩
end Go.Proofs.Ythlmgamdnclmhaa.A
