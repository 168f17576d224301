/- PrioGreatest: the walk. -/
import Derived.Test.YthlmgamdnclmhaaL5
import Derived.Test.YthlmgamdnclmhaaP8
import Derived.Test.YthlmgamdnclmhaaF1
import Derived.Deep.OwnRows
namespace Go.Proofs.Ythlmgamdnclmhaa.A
open Go.RowKit Go.Proofs.YthlmgamdnclmhaaW.PrintWords Go.Proofs.YthlmgamdnclmhaaW.PrintLast Go.Proofs.YthlmgamdnclmhaaW.PrintMore Go.Proofs.Ythlmgamdnclmhaa.R
set_option linter.unusedVariables false
set_option linter.unusedSimpArgs false
attribute [local go_sem] max2_int min2_int max_two min_two

/-- A row of marks. -/
def marks (n : Nat) (f : Nat → Bool) : Array Value := ((List.range n).map (fun i => Value.int .i64 (if f i then 1 else 0))).toArray
theorem marks_get (n : Nat) (f : Nat → Bool) (i : Nat) (h : i < n) : (marks n f)[i]? = some (.int .i64 (if f i then 1 else 0)) := by
  unfold marks
  rw [List.getElem?_toArray, List.getElem?_map, List.getElem?_range h]
  rfl
theorem marks_size (n : Nat) (f : Nat → Bool) : (marks n f).size = n := by unfold marks; simp
theorem marks_set (n : Nat) (f : Nat → Bool) (p : Nat) : (marks n f).setIfInBounds p (.int .i64 1) = marks n (fun i => f i || i == p) := by
  apply Array.ext_getElem?
  intro i
  rw [Array.getElem?_setIfInBounds, marks_size]
  by_cases h : i < n
  · rw [marks_get n f i h, marks_get n (fun i => f i || i == p) i h]
    by_cases e : p = i
    · subst e
      rw [if_pos rfl, if_pos h]
      simp
    · have : (i == p) = false := beq_eq_false_iff_ne.2 (Ne.symm e)
      rw [if_neg e, this, Bool.or_false]
  · rw [Array.getElem?_eq_none (by rw [marks_size]; omega), Array.getElem?_eq_none (by rw [marks_size]; omega)]
    split
    · rename_i h2; rw [if_neg (by omega)]
    · rfl
theorem marks_zero (n : Nat) : madeCells #[.int .i64 0] n = marks n (fun _ => false) := by
  apply Array.toList_inj.1
  rw [toList_madeCells_one]
  unfold marks
  simp [List.map_const']

theorem drawn_quiet (M y : Int) (hM : 0 ≤ M ∧ M < K64) (hy : 0 ≤ y ∧ y ≤ 255) (w : World) (n : Nat) :
    Calls Try.prog 19 #[.int .u8 y, .int .u64 M] (w.drewN n) fun e w'' => e = .returned (.int .u64 (drawL M y)) ∧ ∃ m, w'' = w.drewN m := by
  have hw : IntKind.u64.wrap y = y := by rw [IntKind.wrap_u64]; omega
  refine Calls.quiet_of ((telemeterlaw11_drawn.calls y M (drawL M y) (w.drewN n) ?_).mono fun e w' ⟨he, m, hm⟩ => ⟨he, m, hm⟩)
  unfold telemeterlaw11_drawn.f drawL
  rw [hw]
  by_cases h : M = 0
  · rw [if_pos h, if_neg (by omega)]
  · rw [if_neg h, if_pos (by omega), Int.tmod_eq_emod_of_nonneg hy.1]
theorem refabove_quiet (a c b d : Int) (ha : 0 ≤ a ∧ a < K64) (hc : 0 ≤ c ∧ c < K64) (hb : 0 ≤ b ∧ b < K64) (hd : 0 ≤ d ∧ d < K64) (ht : ¬ b * (c + 1) < a * (d + 1)) (w : World) (n : Nat) :
    Calls Try.prog 17 #[.int .u64 a, .int .u64 c, .int .u64 b, .int .u64 d] (w.drewN n) fun e w'' => e = .returned (.bool false) ∧ ∃ m, w'' = w.drewN m :=
  Calls.quiet_of ((telemeterref11_Above.calls a c b d false (w.drewN n) (by rw [ref_Above a c b d ha.1 ha.2 hc.1 hc.2 hb.1 hb.2 hd.1 hd.2, decide_eq_false ht])).mono fun e w' ⟨he, m, hm⟩ => ⟨he, m, hm⟩)

/-- Is a place among the first ones that are kept? -/
def mk (r : List K) (j p : Nat) : Bool := (r.take j).any (fun x => x.f0 == (p : Int))
theorem mk_zero (r : List K) : (fun _ : Nat => false) = mk r 0 := by funext p; unfold mk; rw [List.take_zero]; rfl
theorem mk_succ (r : List K) (j : Nat) (x : K) (hx : r[j]? = some x) (p : Nat) (hp : x.f0 = (p : Int)) : (fun i => mk r j i || i == p) = mk r (j + 1) := by
  funext i
  unfold mk
  rw [List.take_add_one, hx, List.any_append]
  congr 1
  simp only [Option.toList_some, List.any_cons, List.any_nil, Bool.or_false]
  rw [hp, Bool.eq_iff_iff, beq_iff_eq, beq_iff_eq]
  omega
theorem mk_not (r : List K) (hs : r.Pairwise (fun x y => x.f0 < y.f0)) (j : Nat) (x : K) (hx : r[j]? = some x) (p : Nat) (hp : x.f0 = (p : Int)) : mk r j p = false := by
  unfold mk
  rw [List.any_eq_false]
  intro y hy
  obtain ⟨i, hi, rfl⟩ := List.getElem_of_mem hy
  rw [List.length_take] at hi
  rw [List.getElem_take]
  rw [List.pairwise_iff_getElem] at hs
  obtain ⟨hj, rfl⟩ := List.getElem?_eq_some_iff.1 hx
  have := hs i j (by omega) hj (by omega)
  rw [beq_iff_eq]
  omega
theorem mk_all {keep M : Int} {L : List O} (hp : Places L) (i : Nat) : mk (closeS keep M L) (closeS keep M L).length i = isKept keep L i := by
  unfold mk
  rw [List.take_length, Bool.eq_iff_iff, List.any_eq_true]
  constructor
  · rintro ⟨x, hx, he⟩
    obtain ⟨j, hj, rfl⟩ := List.getElem_of_mem hx
    obtain ⟨i', h1, _, h3⟩ := closeS_get hp (List.getElem?_eq_getElem hj)
    rw [beq_iff_eq, h1] at he
    obtain rfl : i' = i := by omega
    exact h3
  · intro h
    obtain ⟨k, hk, he⟩ := kept_get (M := M) hp h
    exact ⟨k, hk, by rw [he]; simp⟩
theorem mk_prev (r : List K) (hs : r.Pairwise (fun x y => x.f0 < y.f0)) (j i : Nat) (hij : i < j) (x y : K) (hx : r[j]? = some x) (hy : r[i]? = some y) : y.f0 < x.f0 := by
  obtain ⟨hj, rfl⟩ := List.getElem?_eq_some_iff.1 hx
  obtain ⟨hi, rfl⟩ := List.getElem?_eq_some_iff.1 hy
  rw [List.pairwise_iff_getElem] at hs
  exact hs i j hi hj hij

set_option maxHeartbeats 8000000 in
set_option maxRecDepth 100000 in
theorem great_walk (v : Value) (l : List (Int × Int)) (kp M : Int) (w : World) (hl : PairsIn w v l) (hkp : 0 ≤ kp ∧ kp ≤ 255) (hM : 0 ≤ M ∧ M < K64) :
    Calls Try.prog 9 #[v, .int .u8 kp, .int .u64 M] w fun e w' => e = .returned (.bool true) ∧ Below w.heap.size w w' := by
  obtain ⟨ao, cap, hv, hlc, _⟩ := id hl
  subst hv
  have Hl := Aside0.mk hl
  have HM := Aside0.mk hM
  obtain ⟨k0, k1, k2, k3⟩ := keep8 kp hkp.1 hkp.2
  obtain ⟨kr, hkr⟩ : ∃ x, x = kp.tmod 8 := ⟨_, rfl⟩
  rw [← hkr] at k0 k1 k2 k3
  have hkr' := hkr.symm
  obtain ⟨keep, hkeep⟩ : ∃ x, x = 1 + kr := ⟨_, rfl⟩
  rw [← hkeep] at k3
  have hkeep' := hkeep.symm
  have Hk2 := Aside0.mk (show 1 ≤ keep ∧ keep ≤ 1000 by omega)
  have Hk := Aside0.mk (known_calls w)
  have hkp0 := hkp.1
  clear hl hM hkp hkr hkeep
  go_enter Try.func9, Try.ntmps9
  go_wp2_with fail
  refine (New_SR w w keep M (Below.refl _ _) Hk2.out.1 Hk2.out.2).mono ?_
  rintro e w1 ⟨rfl, hs1, hb1⟩
  have HS1 := Aside0.mk hs1
  obtain ⟨g, hg⟩ : ∃ g, g = w.heap.size := ⟨_, rfl⟩
  rw [← hg] at HS1 ⊢
  clear hs1 hb1 hg
  by_cases h60 : 60 < l.length
  · have t2 : decide (60 < (l.length : Int)) = true := decide_eq_true (by omega)
    go_wp2_with fail
    refine (Hk.out w1 HS1.out.bel).mono ?_
    rintro e w2 ⟨rfl, ho2, hb2⟩
    have HB2 := Aside0.mk hb2
    clear ho2 hb2
    go_wp2_with fail
    go_ret
    exact ⟨rfl, HB2.out⟩
  · have t2 : decide (60 < (l.length : Int)) = false := decide_eq_false (by omega)
    have hnl : l.length ≤ 60 := by omega
    clear h60
    go_wp2_with fail
    refine (known_calls w1 w1 (Below.refl _ _)).mono ?_
    rintro e w2 ⟨rfl, ho2, hb2⟩
    have HS2 := Aside0.mk (HS1.out.below hb2)
    clear ho2 hb2
    go_wp2_with fail
    go_loopg [8] l.length (fun gk v8 wr => ∃ i : Nat, v8 = .int .i64 i ∧ Aside0 (i + gk = l.length) ∧ Aside0 (SR w wr g keep M (offN M l i)))
    case atStart => exact ⟨0, rfl, ⟨by omega⟩, HS2⟩
    case round =>
      obtain ⟨i, rfl, H1, H2⟩ := hrel
      by_cases hi : i < l.length
      · obtain ⟨ad, cap', x, y, hv', hlc', hxy, hx, hy, b0, b1⟩ := Hl.out.get (Below.refl _ _) i hi
        obtain ⟨hao, hcap⟩ : ao = some ad ∧ cap = cap' := by injection hv' with e1 e2 e3; exact ⟨e1, e3⟩
        subst hao hcap
        have c0 := pw_cell_below H2.out.bel b0
        have c1 := pw_cell_below H2.out.bel b1
        have HB0 := Aside0.mk (And.intro b0 b1)
        clear b0 b1
        have t3 : decide ((i : Int) < (l.length : Int)) = true := decide_eq_true (by omega)
        have u1 : IntKind.u64.wrap x = x := by rw [IntKind.wrap_u64]; omega
        have u2 : IntKind.u64.wrap y = y := by rw [IntKind.wrap_u64]; omega
        have u3 : IntKind.u64.wrap (x + 1) = x + 1 := by rw [IntKind.wrap_u64]; omega
        have u4 : IntKind.i64.wrap ((i : Int) + 1) = (i : Int) + 1 := by rw [IntKind.wrap_i64]; omega
        have hadd := Aside0.mk (fun wr' hs => Add_SR w wr' g keep M (x + 1) y (offN M l i) hs Hk2.out.1 Hk2.out.2 (by rw [offN_len]; omega) (by omega) (by omega) (by omega) (by unfold K64; omega) HM.out.1 HM.out.2)
        have hoff : offN M l (i + 1) = offN M l i ++ [⟨x + 1, drawL M y, ((offN M l i).length : Int)⟩] := by rw [offN, hxy, offN_len]
        have Hoff := Aside0.mk hoff
        clear hv' hxy hx hy hoff
        go_wp2_with fail
        go_region_held3 (fun w' => w'.cell? (ad.add (i * 2)) = some (.int .u8 x) ∧ w'.cell? ⟨(ad.add (i * 2)).block, (ad.add (i * 2)).off + 1, none⟩ = some (.int .u8 y))
          (first | exact ⟨d0, d1⟩ | exact ⟨c0, c1⟩)
          (first | (go_at_call 11; refine (hadd.out _ (H2.out.below (below_drew (Below.refl _ _)))).mono ?_; rintro e w2 ⟨rfl, hs2, ho2⟩; have HS2 := Aside0.mk hs2; have d0 := pw_cell_below hs2.bel HB0.out.1; have d1 := pw_cell_below hs2.bel HB0.out.2; clear hs2 ho2))
        go_wp2_with fail
        go_roundg (gk - 1)
        case measure => have := H1.out; omega
        case rel => exact ⟨i + 1, by simp, ⟨by have := H1.out; omega⟩, ⟨by rw [Hoff.out]; exact HS2.out⟩⟩
      · have t3 : decide ((i : Int) < (l.length : Int)) = false := decide_eq_false (by omega)
        obtain rfl : i = l.length := by have := H1.out; omega
        go_wp2_with fail
        have hinv : ∃ lv, Inv keep lv (offN M l l.length) := by obtain ⟨_, lv, _, h, _⟩ := H2.out.out; exact ⟨lv, h⟩
        have HINV := Aside0.mk hinv
        refine (Close_SR w wr g keep M _ H2.out Hk2.out.1 Hk2.out.2 (by rw [offN_len]; omega) HM.out.1 HM.out.2).mono ?_
        rintro e w3 ⟨vo, rfl, hr3, hs3, ho3⟩
        obtain ⟨r, hr⟩ : ∃ r, r = closeS keep M (offN M l l.length) := ⟨_, rfl⟩
        rw [← hr] at hr3
        have hkl : r.length ≤ 60 := by rw [hr]; exact Nat.le_trans (by unfold closeS; rw [List.length_map]; exact List.length_filter_le _ _) (by rw [offN_len]; exact hnl)
        have HR := Aside0.mk hr
        have HB3 := Aside0.mk hs3.bel
        have HR3 := Aside0.mk hr3
        obtain ⟨ak, ck, rfl⟩ := own_slice hr3
        have hmk := run_make_row' (P := Try.prog) 49 3 (.int .i64 0) 8 Try.underlying49 info3 rfl .i64 .i64 l.length (by omega) (by omega)
        rw [marks_zero] at hmk
        clear hs3 hr3 ho3 hr hinv
        go_wp2_with fail
        have hpl := HINV.out.choose_spec.pl
        have HPL := Aside0.mk hpl
        have HSO := Aside0.mk (closeS_sorted (keep := keep) (M := M) hpl)
        obtain ⟨B, hB⟩ : ∃ B, B = w3.heap.size := ⟨_, rfl⟩
        have hbk := blk_new w3 (.cells (marks l.length fun _ => false) 3)
        have hbl := below_alloc (Below.refl w3.heap.size w3) (.cells (marks l.length fun _ => false) 3)
        have hB0 : w3.heap.size ≤ B := Nat.le_of_eq hB.symm
        have HB0 := Aside0.mk hB0
        rw [← hB] at hbk ⊢
        rw [mk_zero r] at hbk hbl ⊢
        have HBK := Aside0.mk hbk
        have HBL := Aside0.mk hbl
        generalize w3.alloc (.cells (marks l.length (mk r 0)) 3) = wa at HBK HBL ⊢
        clear hpl hbk hbl hB0 hB hmk
        go_loopg [11] r.length (fun gk v11 wx => ∃ j : Nat, v11 = .int .i64 j ∧ Aside0 (j + gk = r.length) ∧ Aside0 (Below w3.heap.size w3 wx) ∧ Aside0 (wx.heap[B]? = some (.cells (marks l.length (mk r j)) 3 (0, 0))))
        case atStart => exact ⟨0, rfl, ⟨by omega⟩, HBL, HBK⟩
        case round =>
          obtain ⟨j, rfl, H4, H5, H6⟩ := hrel
          by_cases hj : j < r.length
          · obtain ⟨n, hn⟩ : ∃ n, r.length = n + 1 := ⟨r.length - 1, by omega⟩
            have hA := pw_own_below HR3.out H5.out
            have hA' := hA
            rw [hn] at hA'
            obtain ⟨b1, k1', hv1, hc1, _⟩ := ownP_some hA'
            obtain ⟨h1, h1'⟩ : ak = some ⟨b1, 0, none⟩ ∧ ck = k1' := by injection hv1 with e1 e2 e3; exact ⟨e1, e3⟩
            subst h1 h1'
            obtain ⟨x, hx⟩ : ∃ x, r[j]? = some x := ⟨_, List.getElem?_eq_getElem hj⟩
            obtain ⟨p0, _, _⟩ := rowP_get hA j x hx
            have hg := hx
            rw [HR.out] at hg
            obtain ⟨p, hxp, hpl, _⟩ := closeS_get HPL.out hg
            rw [offN_len] at hpl
            have hnot := mk_not r (by rw [HR.out]; exact HSO.out) j x hx p hxp
            have hnx := mk_succ r j x hx p hxp
            have HNX := Aside0.mk hnx
            rw [hxp] at p0
            have cin := (blk_cell H6.out p).trans (marks_get _ _ p hpl)
            rw [hnot, if_neg (by simp)] at cin
            have fin := blk_frozen H6.out p
            have hc1' : r.length ≤ ck := by omega
            have t3 : decide ((j : Int) < (r.length : Int)) = true := decide_eq_true (by omega)
            have t5 : decide ((p : Int) < 0) = false := decide_eq_false (by omega)
            have t6 : decide ((l.length : Int) ≤ (p : Int)) = false := decide_eq_false (by omega)
            have t7 : decide (l.length ≤ p) = false := decide_eq_false (by omega)
            have u4 : IntKind.i64.wrap ((j : Int) + 1) = (j : Int) + 1 := by rw [IntKind.wrap_i64]; omega
            by_cases hj0 : j = 0
            · have t8 : decide (0 < (j : Int)) = false := decide_eq_false (by omega)
              have t9 : decide (0 < j) = false := decide_eq_false (by omega)
              clear hv1 hn hA hA' hnx hnot hg hj0
              go_wp2_with fail
              go_big_quiet (fail)
              go_wp2_with fail
              go_roundg (gk - 1)
              case measure => have := H4.out; omega
              case rel => exact ⟨j + 1, by simp, ⟨by have := H4.out; omega⟩, ⟨below_set (pw_below_drewN H5.out nq) HB0.out⟩, ⟨by rw [← HNX.out, ← marks_set]; exact blk_set (blk_drewN H6.out nq) p _⟩⟩
            · have t8 : decide (0 < (j : Int)) = true := decide_eq_true (by omega)
              have t9 : decide (0 < j) = true := decide_eq_true (by omega)
              obtain ⟨jm, hjm⟩ : ∃ jm, jm = j - 1 := ⟨_, rfl⟩
              have u5 : IntKind.i64.wrap ((j : Int) - 1) = (jm : Int) := by rw [IntKind.wrap_i64]; omega
              have hjm' : jm < r.length := by omega
              obtain ⟨y, hy⟩ : ∃ y, r[jm]? = some y := ⟨_, List.getElem?_eq_getElem hjm'⟩
              obtain ⟨q0, _, _⟩ := rowP_get hA jm y hy
              have hg' := hy
              rw [HR.out] at hg'
              obtain ⟨p', hyp, _, _⟩ := closeS_get HPL.out hg'
              rw [hyp] at q0
              have hlt := mk_prev r (by rw [HR.out]; exact HSO.out) j jm (by omega) x y hx hy
              rw [hxp, hyp] at hlt
              have t10 : decide ((p : Int) ≤ (p' : Int)) = false := decide_eq_false (by omega)
              have t11 : decide (p ≤ p') = false := decide_eq_false (by omega)
              clear hv1 hn hA hA' hnx hnot hg hj0 hjm hg' hlt
              go_wp2_with fail
              go_big_quiet (fail)
              go_wp2_with fail
              go_roundg (gk - 1)
              case measure => have := H4.out; omega
              case rel => exact ⟨j + 1, by simp, ⟨by have := H4.out; omega⟩, ⟨below_set (pw_below_drewN H5.out nq) HB0.out⟩, ⟨by rw [← HNX.out, ← marks_set]; exact blk_set (blk_drewN H6.out nq) p _⟩⟩
          · have t3 : decide ((j : Int) < (r.length : Int)) = false := decide_eq_false (by omega)
            obtain rfl : j = r.length := by have := H4.out; omega
            have hall : mk r r.length = isKept keep (offN M l l.length) := by funext i; rw [HR.out]; exact mk_all HPL.out i
            have hb6 := H6.out
            rw [hall] at hb6
            have HB6 := Aside0.mk hb6
            clear hb6 hall
            go_wp2_with fail
            go_loopg [12] l.length (fun gk v12 wy => ∃ i : Nat, v12 = .int .i64 i ∧ Aside0 (i + gk = l.length) ∧ Aside0 (Below wr.heap.size wr wy))
            case atStart => exact ⟨0, rfl, ⟨by omega⟩, ⟨Below.refl _ _⟩⟩
            case round =>
              obtain ⟨i, rfl, H7, H8⟩ := hrel
              by_cases hi : i < l.length
              · have t3 : decide ((i : Int) < (l.length : Int)) = true := decide_eq_true (by omega)
                have HBI := Aside0.mk (blk_below HB6.out H8.out)
                obtain ⟨gi, hgi⟩ : ∃ gi, gi = gk := ⟨_, rfl⟩
                have HGI := Aside0.mk hgi
                clear hgi
                have cil := (blk_cell HBI.out i).trans (marks_get _ _ i hi)
                have Hcil := Aside0.mk cil
                clear cil
                go_wp2_with fail
                go_loopg [13] l.length (fun gk v13 wz => ∃ m : Nat, v13 = .int .i64 m ∧ Aside0 (m + gk = l.length) ∧ Aside0 (Below wr.heap.size wr wz) ∧ Aside0 (wz.cell? ⟨B, i, none⟩ = some (.int .i64 (if isKept keep (offN M l l.length) i = true then 1 else 0))))
                case atStart => exact ⟨0, rfl, ⟨by omega⟩, ⟨Below.refl _ _⟩, Hcil⟩
                case round =>
                  obtain ⟨m, rfl, H9, H10, H11⟩ := hrel
                  by_cases hm : m < l.length
                  · have t4 : decide ((m : Int) < (l.length : Int)) = true := decide_eq_true (by omega)
                    have u4 : IntKind.i64.wrap ((m : Int) + 1) = (m : Int) + 1 := by rw [IntKind.wrap_i64]; omega
                    have ci := H11.out
                    have cm := (blk_cell (blk_below HBI.out H10.out) m).trans (marks_get _ _ m hm)
                    cases hki : isKept keep (offN M l l.length) i with
                    | true =>
                      rw [hki, if_pos rfl] at ci
                      clear cm
                      go_wp2_with fail
                      go_big_quiet (fail)
                      go_wp2_with fail
                      go_roundg (gk - 1)
                      case measure => have := H9.out; omega
                      case rel => exact ⟨m + 1, by simp, ⟨by have := H9.out; omega⟩, ⟨pw_below_drewN H10.out nq⟩, H11⟩
                    | false =>
                      rw [hki, if_neg (by simp)] at ci
                      cases hkm : isKept keep (offN M l l.length) m with
                      | false =>
                        rw [hkm, if_neg (by simp)] at cm
                        go_wp2_with fail
                        go_big_quiet (fail)
                        go_wp2_with fail
                        go_roundg (gk - 1)
                        case measure => have := H9.out; omega
                        case rel => exact ⟨m + 1, by simp, ⟨by have := H9.out; omega⟩, ⟨pw_below_drewN H10.out nq⟩, H11⟩
                      | true =>
                        rw [hkm, if_pos rfl] at cm
                        obtain ⟨ad, cap', x, y, hv', hlc', hxy, hx, hy, b0, b1⟩ := Hl.out.get (Below.refl _ _) i hi
                        obtain ⟨hao, hcap⟩ : ao = some ad ∧ cap = cap' := by injection hv' with e1 e2 e3; exact ⟨e1, e3⟩
                        subst hao hcap
                        obtain ⟨ad', cap', x', y', hv'', hlc'', hxy', hx', hy', d0, d1⟩ := Hl.out.get (Below.refl _ _) m hm
                        obtain ⟨hao, hcap⟩ : some ad = some ad' ∧ cap = cap' := by injection hv'' with e1 e2 e3; exact ⟨e1, e3⟩
                        obtain rfl := Option.some.inj hao
                        subst hcap
                        have hwz := below_then (below_then (below_then HB3.out HB3.out.size H5.out) (Nat.le_trans HB3.out.size H5.out.size) H8.out) (Nat.le_trans (Nat.le_trans HB3.out.size H5.out.size) H8.out.size) H10.out
                        have c0 := pw_cell_below hwz b0
                        have c1 := pw_cell_below hwz b1
                        have c2 := pw_cell_below hwz d0
                        have c3 := pw_cell_below hwz d1
                        have hd1 := drawn_quiet M y HM.out hy
                        have hd2 := drawn_quiet M y' HM.out hy'
                        have dl := drawL_ok M y (by omega) (by unfold K64; omega) HM.out.2
                        have dl' := drawL_ok M y' (by omega) (by unfold K64; omega) HM.out.2
                        have hgi := offN_get M l l.length i hi
                        have hgm := offN_get M l l.length m hm
                        rw [hxy] at hgi
                        rw [hxy'] at hgm
                        have hab := kept_above (HINV.out.choose_spec.ok) hgi hgm hki hkm
                        have ha1 := refabove_quiet (x + 1) (drawL M y) (x' + 1) (drawL M y') ⟨by omega, by unfold K64; omega⟩ dl ⟨by omega, by unfold K64; omega⟩ dl' hab
                        generalize drawL M y = dy at hd1 ha1
                        generalize drawL M y' = dy' at hd2 ha1
                        have D1 := Aside0.mk hd1
                        have D2 := Aside0.mk hd2
                        have A1 := Aside0.mk ha1
                        have u1 : IntKind.u64.wrap x = x := by rw [IntKind.wrap_u64]; omega
                        have u2 : IntKind.u64.wrap x' = x' := by rw [IntKind.wrap_u64]; omega
                        have u3 : IntKind.u64.wrap (x + 1) = x + 1 := by rw [IntKind.wrap_u64]; omega
                        have u5 : IntKind.u64.wrap (x' + 1) = x' + 1 := by rw [IntKind.wrap_u64]; omega
                        clear hv' hxy hx hy hv'' hxy' hx' hy' b0 b1 d0 d1 dl dl' hgi hgm hab hao hd1 hd2 ha1
                        go_wp2_with fail
                        go_big_quiet (first | with_reducible exact D1.out _ _ | with_reducible exact D2.out _ _ | with_reducible exact A1.out _ _)
                        go_wp2_with fail
                        go_roundg (gk - 1)
                        case measure => have := H9.out; omega
                        case rel => exact ⟨m + 1, by simp, ⟨by have := H9.out; omega⟩, ⟨pw_below_drewN H10.out nq⟩, H11⟩
                  · have t4 : decide ((m : Int) < (l.length : Int)) = false := decide_eq_false (by omega)
                    have u4 : IntKind.i64.wrap ((i : Int) + 1) = (i : Int) + 1 := by rw [IntKind.wrap_i64]; omega
                    go_wp2_with fail
                    go_roundg (gi - 1)
                    case measure => have := H7.out; have := HGI.out; omega
                    case rel => exact ⟨i + 1, by simp, ⟨by have := H7.out; have := HGI.out; omega⟩, ⟨below_then H8.out H8.out.size H10.out⟩⟩
              · have t3 : decide ((i : Int) < (l.length : Int)) = false := decide_eq_false (by omega)
                have hlen := closeS_length (M := M) (by have := Hk2.out; omega) HINV.out.choose_spec
                rw [← HR.out, offN_len] at hlen
                by_cases hc : keep < (l.length : Int)
                · rw [if_pos hc] at hlen
                  have hb : ((r.length : Int) == keep) = true := beq_iff_eq.2 hlen
                  clear hlen
                  go_wp2_with fail
                  go_ret
                  exact ⟨rfl, below_then (below_then HB3.out HB3.out.size H5.out) (Nat.le_trans HB3.out.size H5.out.size) H8.out⟩
                · rw [if_neg hc] at hlen
                  have hb : ((r.length : Int) == (l.length : Int)) = true := beq_iff_eq.2 hlen
                  have hb' : (r.length == l.length) = true := beq_iff_eq.2 (by omega)
                  clear hlen
                  go_wp2_with fail
                  go_ret
                  exact ⟨rfl, below_then (below_then HB3.out HB3.out.size H5.out) (Nat.le_trans HB3.out.size H5.out.size) H8.out⟩
end Go.Proofs.Ythlmgamdnclmhaa.A
