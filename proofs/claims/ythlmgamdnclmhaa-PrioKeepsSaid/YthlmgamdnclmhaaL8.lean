/- PrioKeeps: tells. -/
import Derived.Test.YthlmgamdnclmhaaT8
import Derived.Test.YthlmgamdnclmhaaL4
import Derived.Deep.DeepCutAuto
import Derived.Deep.CutBlock
namespace Go.Proofs.Ythlmgamdnclmhaa.A
open Go.RowKit Go.Proofs.YthlmgamdnclmhaaW.PrintWords Go.Proofs.YthlmgamdnclmhaaW.PrintLast Go.Proofs.YthlmgamdnclmhaaW.PrintMore Go.Proofs.Ythlmgamdnclmhaa.R
set_option linter.unusedVariables false
set_option linter.unusedSimpArgs false

abbrev tS : TypeId := 66
theorem ts_store {w0 w : World} {g B : Nat} {keep M : Int} {L L' : List O} {base : Nat} {v : Value} {a b c : Value} (hs : SR w0 w g keep M L) (hr : RefRow w base v L') (hb : w.heap[B]? = some (.cells #[a, b, c] tS (0, 0))) (h0 : w0.heap.size ≤ B) (x y z : Value) :
    SR w0 (((w.setCell ⟨B, 0, none⟩ x).setCell ⟨B, 1, none⟩ y).setCell ⟨B, 2, none⟩ z) g keep M L ∧ RefRow (((w.setCell ⟨B, 0, none⟩ x).setCell ⟨B, 1, none⟩ y).setCell ⟨B, 2, none⟩ z) base v L' ∧ (((w.setCell ⟨B, 0, none⟩ x).setCell ⟨B, 1, none⟩ y).setCell ⟨B, 2, none⟩ z).heap[B]? = some (.cells #[x, y, z] tS (0, 0)) := by
  have b1 : (w.setCell ⟨B, 0, none⟩ x).heap[B]? = some (.cells #[x, b, c] tS (0, 0)) := blk_put hb 0 x rfl
  have b2 : ((w.setCell ⟨B, 0, none⟩ x).setCell ⟨B, 1, none⟩ y).heap[B]? = some (.cells #[x, y, c] tS (0, 0)) := blk_put b1 1 y rfl
  have b3 : (((w.setCell ⟨B, 0, none⟩ x).setCell ⟨B, 1, none⟩ y).setCell ⟨B, 2, none⟩ z).heap[B]? = some (.cells #[x, y, z] tS (0, 0)) := blk_put b2 2 z rfl
  exact ⟨((hs.set hb (by decide) (by decide) h0 0 x).set b1 (by decide) (by decide) h0 1 y).set b2 (by decide) (by decide) h0 2 z, Kd.R_set (Kd.R_set (Kd.R_set hr hb (by decide) 0 x) b1 (by decide) 1 y) b2 (by decide) 2 z, b3⟩
theorem Off.blkS {w w' : World} (h : Off w w') {B : Nat} {cs : Array Value} (hb : w.heap[B]? = some (.cells cs tS (0, 0))) : w'.heap[B]? = some (.cells cs tS (0, 0)) := h.block B cs tS (0, 0) hb (by decide) (by decide)
theorem IntsIn.get64 {w : World} {v : Value} {l : List Int} (h : IntsIn .u64 w v l) (i : Nat) (hi : i < l.length) :
    ∃ (ad : Addr) (cap : Nat) (x : Int), v = .slice (some ad) l.length cap ∧ l.length ≤ cap ∧ (0 ≤ x ∧ x < K64) ∧ w.cell? (ad.add i) = some (.int .u64 x) := by
  obtain ⟨a, cap, h1, h2, h3, h4⟩ := h
  obtain ⟨hx, ad, h6, h7⟩ := h4 i _ (List.getElem?_eq_getElem hi)
  subst h6
  exact ⟨ad, cap, _, h1, h2, in_u64 hx, h7⟩
theorem PairsIn.half {w : World} {ao : Option Addr} {cap : Nat} {l : List (Int × Int)} (h : PairsIn w (.slice ao l.length cap) l) : PairsIn w (.slice ao (l.take (l.length / 2)).length cap) (l.take (l.length / 2)) := by
  obtain ⟨a, c, h1, h2, h3, h4⟩ := h
  injection h1 with e1 e2 e3
  subst e1 e3
  refine ⟨ao, cap, rfl, Nat.le_trans (List.length_take_le _ _) (by omega), h3, fun i x hx => h4 i x ?_⟩
  rw [List.getElem?_take] at hx
  split at hx
  · exact hx
  · cases hx

set_option maxHeartbeats 8000000 in
set_option maxRecDepth 100000 in
theorem tells_calls (w0 w : World) (keep M : Int) (v vw vr : Value) (l : List (Int × Int)) (ws rs : List Int) (hb : Below w0.heap.size w0 w) (hl : PairsIn w0 v l) (hw : IntsIn .u64 w0 vw ws) (hr : IntsIn .u64 w0 vr rs) (hl40 : l.length ≤ 40) (hk : 1 ≤ keep ∧ keep ≤ 1000) (hM : 0 ≤ M ∧ M < K64) :
    Calls Try.prog 15 #[.int .i64 keep, .int .u64 M, v, vw, vr] w fun e w' => e = .returned (.bool true) ∧ Below w0.heap.size w0 w' := by
  obtain ⟨ao, cap, hv, hlc, _⟩ := id hl
  obtain ⟨aw, capw, hvw, hlw, _⟩ := id hw
  obtain ⟨ar, capr, hvr, hlr, _⟩ := id hr
  subst hv hvw hvr
  have Hl := Aside0.mk hl
  have HW := Aside0.mk hw
  have HR := Aside0.mk hr
  have HM := Aside0.mk hM
  have Hk := Aside0.mk hk
  have HB := Aside0.mk hb
  clear hl hw hr hM hk hb
  go_enter Try.func15, Try.ntmps15
  go_wp2_with fail
  refine (New_SR w0 w keep M HB.out Hk.out.1 Hk.out.2).mono ?_
  rintro e w1 ⟨rfl, hs1, hb1⟩
  have HS1 := Aside0.mk hs1
  obtain ⟨g, hg⟩ : ∃ g, g = w.heap.size := ⟨_, rfl⟩
  rw [← hg] at HS1 ⊢
  clear hs1 hb1 hg
  go_wp2_with fail
  refine (refNew_calls w0 w1 keep M HS1.out.bel Hk.out.1 Hk.out.2).mono ?_
  rintro e w2 ⟨v1, rfl, hr2, hb2⟩
  have HS2 := Aside0.mk (HS1.out.below hb2)
  obtain ⟨A1, c1, rfl, _, _⟩ := hr2.reads
  have HR2 := Aside0.mk hr2
  clear hr2 hb2
  have hbn := blk_new w2 (.cells #[.int .i64 keep, .int .u64 M, .slice A1 0 c1] tS)
  have hban := below_alloc (Below.refl w2.heap.size w2) (.cells #[.int .i64 keep, .int .u64 M, .slice A1 0 c1] tS)
  have HS3 := Aside0.mk (HS2.out.below hban)
  have HR3 := Aside0.mk (HR2.out.below hban)
  obtain ⟨B, hB⟩ : ∃ B, B = w2.heap.size := ⟨_, rfl⟩
  have HB0 := Aside0.mk (show w0.heap.size ≤ B by rw [hB]; exact HS2.out.bel.size)
  rw [← hB] at hbn
  have HBK := Aside0.mk hbn
  go_wp2_with fail
  rw [← hB]
  clear hbn hban hB HR2
  generalize w2.alloc (.cells #[.int .i64 keep, .int .u64 M, .slice A1 0 c1] tS) = w3 at HS3 HR3 HBK ⊢
  go_loopg [2, 14] 2 (fun gk v2 v14 wr => ∃ (k : Nat) (l' : List (Int × Int)) (A : Option Addr) (c : Nat), v14 = .int .i64 k ∧ v2 = .slice ao l'.length cap ∧ Aside0 (k + gk = 2) ∧ Aside0 (PairsIn w0 (.slice ao l'.length cap) l') ∧ Aside0 (l'.length ≤ 40) ∧ Aside0 (SR w0 wr g keep M []) ∧ Aside0 (RefRow wr w0.heap.size (.slice A 0 c) []) ∧ Aside0 (wr.heap[B]? = some (.cells #[.int .i64 keep, .int .u64 M, .slice A 0 c] tS (0, 0))))
  case atStart => exact ⟨0, l, A1, c1, rfl, rfl, ⟨by omega⟩, Hl, ⟨hl40⟩, HS3, HR3, HBK⟩
  case round =>
    obtain ⟨k, l', A, c, rfl, rfl, H1, H2, H3, H4, H5, H6⟩ := hrel
    by_cases hk2 : k < 2
    · have t1 : decide ((k : Int) < 2) = true := decide_eq_true (by omega)
      have t2 : decide (k < 2) = true := decide_eq_true hk2
      obtain ⟨gi, hgi⟩ : ∃ gi, gi = gk := ⟨_, rfl⟩
      have HGI := Aside0.mk hgi
      have hl'40 := H3.out
      have hlc' : l'.length ≤ cap := by obtain ⟨_, _, h1, h2, _⟩ := H2.out; injection h1 with e1 e2 e3; omega
      clear hgi
      go_wp2_with fail
      go_loopg [15] l'.length (fun gk v15 wr => ∃ (i : Nat) (L : List O) (A : Option Addr) (c : Nat), v15 = .int .i64 i ∧ Aside0 (i + gk = l'.length) ∧ Aside0 (L.length ≤ i) ∧ Aside0 (SR w0 wr g keep M L) ∧ Aside0 (RefRow wr w0.heap.size (.slice A L.length c) L) ∧ Aside0 (wr.heap[B]? = some (.cells #[.int .i64 keep, .int .u64 M, .slice A L.length c] tS (0, 0))))
      case atStart => exact ⟨0, [], A, c, rfl, ⟨by omega⟩, ⟨Nat.le_refl _⟩, H4, H5, H6⟩
      case round =>
        clear H4 H5 H6
        clear A c
        obtain ⟨i, L, A, c, rfl, H7, H8, H9, H10, H11⟩ := hrel
        by_cases hi : i < l'.length
        · have t3 : decide ((i : Int) < (l'.length : Int)) = true := decide_eq_true (by omega)
          have t4 : decide (i < l'.length) = true := decide_eq_true hi
          obtain ⟨ad, cap', x, y, hv', hlc2, hxy, hx, hy, b0, b1⟩ := H2.out.get (Below.refl _ _) i hi
          obtain ⟨hao, hcap⟩ : ao = some ad ∧ cap = cap' := by injection hv' with e1 e2 e3; exact ⟨e1, e3⟩
          subst hao hcap
          have c0 := pw_cell_below H9.out.bel b0
          have c1 := pw_cell_below H9.out.bel b1
          obtain ⟨xr, hxr⟩ : ∃ z, z = x.tmod 20 := ⟨_, rfl⟩
          have hxr2 : xr = x % 20 := by rw [hxr, Int.tmod_eq_emod_of_nonneg hx.1]
          have hxr' := hxr.symm
          have hxrb : 0 ≤ xr ∧ xr < 20 := by omega
          have u1 : IntKind.u8.wrap xr = xr := by rw [IntKind.wrap_u8]; omega
          have u2 : IntKind.u64.wrap xr = xr := by rw [IntKind.wrap_u64]; omega
          have u3 : IntKind.u64.wrap y = y := by rw [IntKind.wrap_u64]; omega
          have HXB := Aside0.mk (show (0 ≤ xr ∧ xr < 4294967298) ∧ 0 ≤ y ∧ y < K64 by unfold K64; omega)
          clear hv' hxy hx hy b0 b1 hxr hxr2 hxrb
          go_upto_if 62 with (fail)
          go_cut [17] (fun v17 wc => ∃ d : Int, v17 = .int .u64 d ∧ Aside0 (0 ≤ d ∧ d < K64) ∧ Aside0 (wc = wr))
          case first =>
            by_cases hir : i < rs.length
            · have t5 : decide (i < rs.length) = true := decide_eq_true hir
              have t6 : decide ((i : Int) < (rs.length : Int)) = true := decide_eq_true (by omega)
              obtain ⟨adr, capr', d, hvr, hlr2, hd, br⟩ := HR.out.get64 i hir
              obtain ⟨hao, hcap⟩ : ar = some adr ∧ capr = capr' := by injection hvr with e1 e2 e3; exact ⟨e1, e3⟩
              subst hao hcap
              have c2 := pw_cell_below H9.out.bel br
              have HD := Aside0.mk hd
              clear hvr hd br
              go_wp2_with fail
              go_meet
              case rel => exact ⟨d, rfl, HD, ⟨rfl⟩⟩
            · have t5 : decide (i < rs.length) = false := decide_eq_false hir
              have t6 : decide ((i : Int) < (rs.length : Int)) = false := decide_eq_false (by omega)
              go_wp2_with fail
              go_meet
              case rel => exact ⟨y, rfl, ⟨HXB.out.2⟩, ⟨rfl⟩⟩
          case rest =>
            obtain ⟨d, rfl, HD, hwc⟩ := hcut
            have hwc := hwc.out
            subst hwc
            go_upto_if 70 with (fail)
            go_cut [16] (fun v16 wc' => ∃ d : Int, v16 = .int .u64 d ∧ Aside0 (0 ≤ d ∧ d < 4294967298) ∧ Aside0 (wc' = wc))
            case first =>
              by_cases hir : i < ws.length
              · have t5 : decide (i < ws.length) = true := decide_eq_true hir
                have t6 : decide ((i : Int) < (ws.length : Int)) = true := decide_eq_true (by omega)
                obtain ⟨adr, capr', d', hvr, hlr2, hd, br⟩ := HW.out.get64 i hir
                obtain ⟨hao, hcap⟩ : aw = some adr ∧ capw = capr' := by injection hvr with e1 e2 e3; exact ⟨e1, e3⟩
                subst hao hcap
                have c2 := pw_cell_below H9.out.bel br
                obtain ⟨z, hz⟩ : ∃ z, z = d'.tmod 4294967298 := ⟨_, rfl⟩
                have hz2 : z = d' % 4294967298 := by rw [hz, Int.tmod_eq_emod_of_nonneg hd.1]
                have hz' := hz.symm
                have hzb : 0 ≤ z ∧ z < 4294967298 := by omega
                have u4 : IntKind.u64.wrap z = z := by rw [IntKind.wrap_u64]; omega
                have HZB := Aside0.mk hzb
                clear hvr hd br hz hz2 hzb
                go_wp2_with fail
                go_meet
                case rel => exact ⟨z, rfl, HZB, ⟨rfl⟩⟩
              · have t5 : decide (i < ws.length) = false := decide_eq_false hir
                have t6 : decide ((i : Int) < (ws.length : Int)) = false := decide_eq_false (by omega)
                go_wp2_with fail
                go_meet
                case rel => exact ⟨xr, rfl, ⟨HXB.out.1⟩, ⟨rfl⟩⟩
            case rest =>
              obtain ⟨wt, rfl, HWT, hwc⟩ := hcut
              have hwc := hwc.out
              subst hwc
              have hL40 := H8.out
              by_cases hbad : wt = 0 ∨ 4294967296 < wt
              · have HBAD := Aside0.mk hbad
                clear hbad
                obtain ⟨⟨m0, m1, m2⟩, _, _⟩ := blk3 H11.out
                go_wp2_with fail
                refine (refAddBad_calls A L.length c keep M wt d _ HBAD.out).mono ?_
                rintro e w4 ⟨rfl, hb4⟩
                have HS4 := Aside0.mk (H9.out.below hb4)
                have HR4 := Aside0.mk (H10.out.below hb4)
                have HK4 := Aside0.mk (blk_below H11.out hb4)
                have hbn := blk_new w4 (.cells #[.int .i64 keep, .int .u64 M, .slice A L.length c] tS)
                have hban := below_alloc (Below.refl w4.heap.size w4) (.cells #[.int .i64 keep, .int .u64 M, .slice A L.length c] tS)
                have HS5 := Aside0.mk (HS4.out.below hban)
                have HR5 := Aside0.mk (HR4.out.below hban)
                have HK5 := Aside0.mk (blk_below HK4.out hban)
                obtain ⟨B', hB'⟩ : ∃ B', B' = w4.heap.size := ⟨_, rfl⟩
                rw [← hB'] at hbn
                have HN5 := Aside0.mk hbn
                clear hb4
                go_wp2_with fail
                rw [← hB']
                clear hbn hban hB'
                generalize w4.alloc (.cells #[.int .i64 keep, .int .u64 M, .slice A L.length c] tS) = w5 at HS5 HR5 HK5 HN5 ⊢
                refine (AddBad_SR w0 w5 g keep M wt d L HS5.out HBAD.out).mono ?_
                rintro e w6 ⟨rfl, hs6, hb6⟩
                have HS6 := Aside0.mk hs6
                have HR6 := Aside0.mk (HR5.out.below hb6)
                have hk6 := blk_below HK5.out hb6
                have hn6 := blk_below HN5.out hb6
                have HK6 := Aside0.mk hk6
                obtain ⟨⟨n0, n1, n2⟩, _, _⟩ := blk3 hn6
                obtain ⟨⟨k0, k1, k2⟩, kf, klt⟩ := blk3 hk6
                clear hs6 hb6 hk6 hn6
                go_wp2_with fail
                go_big_quiet (with_reducible exact Len_quiet w0 w6 g keep M L HS6.out _)
                go_wp2_with fail
                obtain ⟨q1, q2, q3⟩ := ts_store (HS6.out.below (pw_below_drewN (Below.refl _ _) nq)) (HR6.out.below (pw_below_drewN (Below.refl _ _) nq)) (blk_drewN HK6.out nq) HB0.out (.int .i64 keep) (.int .u64 M) (.slice A L.length c)
                go_roundg (gk - 1)
                case measure => have := H7.out; omega
                case rel => exact ⟨i + 1, L, A, c, by simp, ⟨by have := H7.out; omega⟩, ⟨by omega⟩, ⟨q1⟩, ⟨q2⟩, ⟨q3⟩⟩
              · have hwt1 : 1 ≤ wt := by have := HWT.out; omega
                have hwt2 : wt ≤ 4294967296 := by omega
                obtain ⟨⟨m0, m1, m2⟩, _, _⟩ := blk3 H11.out
                have HWB := Aside0.mk (And.intro hwt1 hwt2)
                clear hbad hwt1 hwt2
                obtain ⟨L', hL'⟩ : ∃ L', L' = L ++ [⟨wt, drawL M d, (L.length : Int)⟩] := ⟨_, rfl⟩
                have hLl : L'.length = L.length + 1 := by rw [hL', List.length_append]; rfl
                have Hra := Aside0.mk (refAdd_calls w0 wc L (.slice A L.length c) keep M wt d H9.out.bel H10.out (by omega) HM.out.1 HWB.out.1 HWB.out.2 HD.out.1 L.length)
                have Hsa := Aside0.mk (fun ww hs => Add_SR w0 ww g keep M wt d L hs Hk.out.1 Hk.out.2 (by omega) HWB.out.1 HWB.out.2 HD.out.1 HD.out.2 HM.out.1 HM.out.2)
                rw [← hL'] at Hra Hsa
                have HLL := Aside0.mk hLl
                clear hL' hLl
                go_wp2_with fail
                refine Hra.out.mono ?_
                rintro e w4 ⟨v4, rfl, hr4, hb4⟩
                obtain ⟨A', c', rfl, _, _⟩ := hr4.reads
                have HS4 := Aside0.mk (H9.out.below hb4)
                have HR4 := Aside0.mk hr4
                have HK4 := Aside0.mk (blk_below H11.out hb4)
                have hbn := blk_new w4 (.cells #[.int .i64 keep, .int .u64 M, .slice A' L'.length c'] tS)
                have hban := below_alloc (Below.refl w4.heap.size w4) (.cells #[.int .i64 keep, .int .u64 M, .slice A' L'.length c'] tS)
                have HS5 := Aside0.mk (HS4.out.below hban)
                have HR5 := Aside0.mk (HR4.out.below hban)
                have HK5 := Aside0.mk (blk_below HK4.out hban)
                obtain ⟨B', hB'⟩ : ∃ B', B' = w4.heap.size := ⟨_, rfl⟩
                rw [← hB'] at hbn
                have HN5 := Aside0.mk hbn
                clear hb4 hr4
                go_wp2_with fail
                rw [← hB']
                clear hbn hban hB'
                generalize w4.alloc (.cells #[.int .i64 keep, .int .u64 M, .slice A' L'.length c'] tS) = w5 at HS5 HR5 HK5 HN5 ⊢
                refine (Hsa.out w5 HS5.out).mono ?_
                rintro e w6 ⟨rfl, hs6, ho6⟩
                have HS6 := Aside0.mk hs6
                have HR6 := Aside0.mk (HR5.out.off ho6)
                have hk6 := ho6.blkS HK5.out
                have hn6 := ho6.blkS HN5.out
                have HK6 := Aside0.mk hk6
                obtain ⟨⟨n0, n1, n2⟩, _, _⟩ := blk3 hn6
                obtain ⟨⟨k0, k1, k2⟩, kf, klt⟩ := blk3 hk6
                clear hs6 ho6 hk6 hn6
                go_wp2_with fail
                go_big_quiet (with_reducible exact Len_quiet w0 w6 g keep M L' HS6.out _)
                go_wp2_with fail
                obtain ⟨q1, q2, q3⟩ := ts_store (HS6.out.below (pw_below_drewN (Below.refl _ _) nq)) (HR6.out.below (pw_below_drewN (Below.refl _ _) nq)) (blk_drewN HK6.out nq) HB0.out (.int .i64 keep) (.int .u64 M) (.slice A' L'.length c')
                go_roundg (gk - 1)
                case measure => have := H7.out; omega
                case rel => exact ⟨i + 1, L', A', c', by simp, ⟨by have := H7.out; omega⟩, ⟨by have := HLL.out; omega⟩, ⟨q1⟩, ⟨q2⟩, ⟨q3⟩⟩
        · have t3 : decide ((i : Int) < (l'.length : Int)) = false := decide_eq_false (by omega)
          have t4 : decide (i < l'.length) = false := decide_eq_false hi
          obtain ⟨⟨m0, m1, m2⟩, _, _⟩ := blk3 H11.out
          have hLl := H8.out
          have hiv : AllOk L ∧ Places L := by obtain ⟨_, _, _, h, _⟩ := H9.out.out; exact ⟨h.ok, h.pl⟩
          have Hrc := Aside0.mk (refClose_calls w0 wr L (.slice A L.length c) keep M H9.out.bel H10.out hiv.1 hiv.2 (by have := H7.out; omega) Hk.out.1 HM.out.1 HM.out.2)
          obtain ⟨r, hr⟩ : ∃ r, r = closeS keep M L := ⟨_, rfl⟩
          have hrl : r.length ≤ 1000 := by rw [hr]; have := closeS_len keep M L; have := H7.out; omega
          have Hsc := Aside0.mk (fun ww hs => Close_SR w0 ww g keep M L hs Hk.out.1 Hk.out.2 (by have := H7.out; omega) HM.out.1 HM.out.2)
          rw [← hr] at Hrc Hsc
          clear hr hiv
          go_wp2_with fail
          refine Hrc.out.mono ?_
          rintro e w4 ⟨v4, vx, rfl, hr4, hx4, hb4⟩
          obtain ⟨A', c', rfl, _, _⟩ := hr4.reads
          obtain ⟨Ax, cx, rfl, _, _⟩ := hx4.reads
          have HS4 := Aside0.mk (H9.out.below hb4)
          have HR4 := Aside0.mk hr4
          have HX4 := Aside0.mk hx4
          have HK4 := Aside0.mk (blk_below H11.out hb4)
          have hbn := blk_new w4 (.cells #[.int .i64 keep, .int .u64 M, .slice A' 0 c'] tS)
          have hban := below_alloc (Below.refl w4.heap.size w4) (.cells #[.int .i64 keep, .int .u64 M, .slice A' 0 c'] tS)
          have HS5 := Aside0.mk (HS4.out.below hban)
          have HR5 := Aside0.mk (HR4.out.below hban)
          have HX5 := Aside0.mk (Kd.R_below HX4.out hban)
          have HK5 := Aside0.mk (blk_below HK4.out hban)
          obtain ⟨B', hB'⟩ : ∃ B', B' = w4.heap.size := ⟨_, rfl⟩
          rw [← hB'] at hbn
          have HN5 := Aside0.mk hbn
          clear hb4 hr4 hx4
          go_wp2_with fail
          rw [← hB']
          clear hbn hban hB'
          generalize w4.alloc (.cells #[.int .i64 keep, .int .u64 M, .slice A' 0 c'] tS) = w5 at HS5 HR5 HX5 HK5 HN5 ⊢
          refine (Hsc.out w5 HS5.out).mono ?_
          rintro e w6 ⟨vo, rfl, hr6, hs6, ho6⟩
          obtain ⟨ak, ck, rfl⟩ := own_slice hr6
          have HS6 := Aside0.mk hs6
          have HR6 := Aside0.mk (HR5.out.off ho6)
          have HX6 := Aside0.mk (KeptRow.off HX5.out ho6)
          have HY6 := Aside0.mk (KeptRow.of_own hr6)
          have HK6 := Aside0.mk (ho6.blkS HK5.out)
          have HN6 := Aside0.mk (ho6.blkS HN5.out)
          clear hs6 hr6 ho6
          go_wp2_with fail
          refine (refSame_calls w5 w0 w6 _ _ r HY6.out HX6.out hrl).mono ?_
          rintro e w7 ⟨rfl, hb7⟩
          have HS7 := Aside0.mk (HS6.out.below hb7)
          have HR7 := Aside0.mk (HR6.out.below hb7)
          have hk7 := blk_below HK6.out hb7
          have hn7 := blk_below HN6.out hb7
          have HK7 := Aside0.mk hk7
          obtain ⟨⟨n0, n1, n2⟩, _, _⟩ := blk3 hn7
          obtain ⟨⟨k0, k1, k2⟩, kf, klt⟩ := blk3 hk7
          obtain ⟨hf, hhf⟩ : ∃ h : Nat, h = l'.length / 2 := ⟨_, rfl⟩
          have hdv : (l'.length : Int).tdiv 2 = (hf : Int) := by rw [Int.tdiv_eq_ediv_of_nonneg (Int.natCast_nonneg _)]; omega
          have hhf2 : hf ≤ cap := by omega
          have hhf3 : hf ≤ 40 := by omega
          have hhl : (l'.take (l'.length / 2)).length = hf := by rw [List.length_take]; omega
          have HHL := Aside0.mk hhl
          have y1 : IntKind.i64.wrap (hf : Int) = (hf : Int) := by rw [IntKind.wrap_i64]; omega
          have y2 : IntKind.i64.wrap ((k : Int) + 1) = (k : Int) + 1 := by rw [IntKind.wrap_i64]; omega
          clear hb7 hk7 hn7 hhl hhf
          cases ao with
          | none =>
            go_wp2_with fail
            obtain ⟨q1, q2, q3⟩ := ts_store HS7.out HR7.out HK7.out HB0.out (.int .i64 keep) (.int .u64 M) (.slice A' 0 c')
            go_roundg (gi - 1)
            case measure => have := H1.out; have := HGI.out; omega
            case rel => exact ⟨k + 1, l'.take (l'.length / 2), A', c', by simp, by rw [HHL.out], ⟨by have := H1.out; have := HGI.out; omega⟩, ⟨PairsIn.half H2.out⟩, ⟨by rw [HHL.out]; omega⟩, ⟨q1⟩, ⟨q2⟩, ⟨q3⟩⟩
          | some ad =>
            go_wp2_with fail
            obtain ⟨q1, q2, q3⟩ := ts_store HS7.out HR7.out HK7.out HB0.out (.int .i64 keep) (.int .u64 M) (.slice A' 0 c')
            go_roundg (gi - 1)
            case measure => have := H1.out; have := HGI.out; omega
            case rel => exact ⟨k + 1, l'.take (l'.length / 2), A', c', by simp, by rw [HHL.out], ⟨by have := H1.out; have := HGI.out; omega⟩, ⟨PairsIn.half H2.out⟩, ⟨by rw [HHL.out]; omega⟩, ⟨q1⟩, ⟨q2⟩, ⟨q3⟩⟩
    · have t1 : decide ((k : Int) < 2) = false := decide_eq_false (by omega)
      have t2 : decide (k < 2) = false := decide_eq_false hk2
      go_wp2_with fail
      go_ret
      exact ⟨rfl, H4.out.bel⟩
end Go.Proofs.Ythlmgamdnclmhaa.A
