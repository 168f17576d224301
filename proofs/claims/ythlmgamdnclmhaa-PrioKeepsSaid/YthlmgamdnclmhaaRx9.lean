-- printed by a program for this claim (see wip/tools)
import Derived.Test.YthlmgamdnclmhaaRx0
import Derived.Test.YthlmgamdnclmhaaRx6
namespace Go.Proofs.Ythlmgamdnclmhaa.R
open Go.RowKit Go.Proofs.YthlmgamdnclmhaaW.PrintWords Go.Proofs.YthlmgamdnclmhaaW.PrintLast Go.Proofs.YthlmgamdnclmhaaW.PrintMore
attribute [local go_sem] max2_int min2_int max_two min_two max_three min_three max_four min_four   -- for this text's walks alone
set_option linter.unusedVariables false
set_option linter.unusedSimpArgs false

/-! ### prio_offer_above: function 86 -/
def prio_offer_above.f (a0_0 : Int) (a0_1 : Int) (a0_2 : Int) (a1_0 : Int) (a1_1 : Int) (a1_2 : Int) : Option (Bool) := (prio_Above.f a0_0 a0_1 a1_0 a1_1).bind fun t225 => (if t225 = true then (some true) else ((prio_Above.f a1_0 a1_1 a0_0 a0_1).bind fun t226 => (if t226 = true then (some false) else (some (decide (a0_2 < a1_2))))))
set_option maxHeartbeats 8000000 in
set_option maxRecDepth 100000 in
theorem prio_offer_above.calls (a0_0 : Int) (a0_1 : Int) (a0_2 : Int) (a1_0 : Int) (a1_1 : Int) (a1_2 : Int) (r : Bool) (w : World) (h : prio_offer_above.f a0_0 a0_1 a0_2 a1_0 a1_1 a1_2 = some r) :
    Calls Try.prog 86 #[.agg #[.int .u64 a0_0, .int .u64 a0_1, .int .i64 a0_2], .agg #[.int .u64 a1_0, .int .u64 a1_1, .int .i64 a1_2]] w fun e w' => e = .returned (.bool r) ∧ Below w.heap.size w w' := by
  have hu56 := Try.underlying56
  have HB := Aside0.mk (Below.refl w.heap.size w)
  have H : ((prio_Above.f a0_0 a0_1 a1_0 a1_1).bind fun t225 => (if t225 = true then (some true) else ((prio_Above.f a1_0 a1_1 a0_0 a0_1).bind fun t226 => (if t226 = true then (some false) else (some (decide (a0_2 < a1_2))))))) = some r := h
  clear h
  replace H := Option.bind_eq_some_iff.mp H
  obtain ⟨t225, A30, H⟩ := H
  replace H : (if t225 = true then (some true) else ((prio_Above.f a1_0 a1_1 a0_0 a0_1).bind fun t226 => (if t226 = true then (some false) else (some (decide (a0_2 < a1_2)))))) = some r := H
  have A3 := Aside0.mk A30
  clear A30
  by_cases c4 : t225 = true
  · subst c4
    have H1 : (some true) = some r := by rw [if_pos rfl] at H; exact H
    clear H
    have H := H1
    clear H1
    obtain rfl := Option.some.inj H
    go_enter Try.func86, Try.ntmps86
    go_wp2_with (first | ((with_reducible refine gate_dst (N := 2) rfl ?_); refine box_event ?hg (N := 2) ?hd (cs := #[.int .u64 a0_0, .int .u64 a0_1, .int .i64 a0_2]) (t := 56) ?hr ?_; (case hd => rfl); (case hg => rfl); (case hr => first | (go_simp; done) | (go_simp; rfl)); intro gb223 hg w5 hbox hb; have n0_ := Aside0.mk (below_step (by repeat (first | (with_reducible first | exact HB.out | apply below_alloc | apply pw_below_drewN | apply below_drew1) | exact HB.out)) hb); have n1_ := Aside0.mk (hbox); have n2_ := Aside0.mk ((by rw [hg]; exact (below_size (by repeat (first | (with_reducible first | exact HB.out | apply below_alloc | apply pw_below_drewN | apply below_drew1) | exact HB.out))) : w.heap.size ≤ gb223)); have n3_ := Aside0.mk ((by rw [hg]; exact (below_size (by repeat (first | (with_reducible first | exact HB.out | apply below_alloc | apply pw_below_drewN | apply below_drew1) | exact HB.out))) : w.heap.size ≤ gb223)); clear HB; have HB := n0_; have BK223 := n1_; have GW223 := n2_; have GE223 := n3_; clear n0_ n1_ n2_ n3_; clear hb hbox hg) | ((with_reducible refine gate_dst (N := 3) rfl ?_); refine box_event ?hg (N := 3) ?hd (cs := #[.int .u64 a1_0, .int .u64 a1_1, .int .i64 a1_2]) (t := 56) ?hr ?_; (case hd => rfl); (case hg => rfl); (case hr => first | (go_simp; done) | (go_simp; rfl)); intro gb224 hg w6 hbox hb; have n0_ := Aside0.mk (blk_below (g := gb223) (o := .cells #[.int .u64 a0_0, .int .u64 a0_1, .int .i64 a0_2] 56 (0, 0)) (by (with_reducible repeat (first | refine blk_drewN ?_ _ | refine blk_drew ?_ | refine blk_alloc ?_ _)); exact BK223.out) hb); have n1_ := Aside0.mk (below_step (by repeat (first | (with_reducible first | exact HB.out | apply below_alloc | apply pw_below_drewN | apply below_drew1 | refine below_set ?_ GE223.out) | exact HB.out)) hb); have n2_ := Aside0.mk (hbox); have n3_ := Aside0.mk ((by rw [hg]; exact (below_size (by repeat (first | (with_reducible first | exact HB.out | apply below_alloc | apply pw_below_drewN | apply below_drew1 | refine below_set ?_ GE223.out) | exact HB.out))) : w.heap.size ≤ gb224)); have n4_ := Aside0.mk ((by rw [hg]; exact (below_size (by repeat (first | (with_reducible first | exact HB.out | apply below_alloc | apply pw_below_drewN | apply below_drew1 | refine below_set ?_ GE223.out) | exact HB.out))) : w.heap.size ≤ gb224)); have n5_ := Aside0.mk ((by rw [hg]; exact Nat.ne_of_lt (blk_lt (g := gb223) (o := .cells #[.int .u64 a0_0, .int .u64 a0_1, .int .i64 a0_2] 56 (0, 0)) (by (with_reducible repeat (first | refine blk_drewN ?_ _ | refine blk_drew ?_ | refine blk_alloc ?_ _)); exact BK223.out)) : gb223 ≠ gb224)); have n6_ := Aside0.mk ((by rw [hg]; exact Nat.ne_of_gt (blk_lt (g := gb223) (o := .cells #[.int .u64 a0_0, .int .u64 a0_1, .int .i64 a0_2] 56 (0, 0)) (by (with_reducible repeat (first | refine blk_drewN ?_ _ | refine blk_drew ?_ | refine blk_alloc ?_ _)); exact BK223.out)) : gb224 ≠ gb223)); clear BK223; clear HB; have BK223 := n0_; have HB := n1_; have BK224 := n2_; have GW224 := n3_; have GE224 := n4_; have NB223_224 := n5_; have NB224_223 := n6_; clear n0_ n1_ n2_ n3_ n4_ n5_ n6_; clear hb hbox hg; have hnb7 := NB223_224.out; have hnc7 := NB224_223.out; have hcz8_0 : w6.cell? ⟨gb223, 0, none⟩ = some (.int .u64 a0_0) := (blk_cell BK223.out 0).trans rfl; have hcz8_1 : w6.cell? ⟨gb223, 1, none⟩ = some (.int .u64 a0_1) := (blk_cell BK223.out 1).trans rfl; have hcz8_2 : w6.cell? ⟨gb223, 2, none⟩ = some (.int .i64 a0_2) := (blk_cell BK223.out 2).trans rfl; have hfz8_0 := blk_frozen BK223.out 0; have hfz8_1 := blk_frozen BK223.out 1; have hfz8_2 := blk_frozen BK223.out 2; have hcz9_0 : w6.cell? ⟨gb224, 0, none⟩ = some (.int .u64 a1_0) := (blk_cell BK224.out 0).trans rfl; have hcz9_1 : w6.cell? ⟨gb224, 1, none⟩ = some (.int .u64 a1_1) := (blk_cell BK224.out 1).trans rfl; have hcz9_2 : w6.cell? ⟨gb224, 2, none⟩ = some (.int .i64 a1_2) := (blk_cell BK224.out 2).trans rfl; have hfz9_0 := blk_frozen BK224.out 0; have hfz9_1 := blk_frozen BK224.out 1; have hfz9_2 := blk_frozen BK224.out 2) | ((with_reducible refine gate_callee (f := 16) rfl ?_); refine goesL_ (some 14) rfl rfl Try.func16 (by kernel_rfl) rfl #[.int .u64 a0_0, .int .u64 a0_1, .int .u64 a1_0, .int .u64 a1_1] rfl (by (try simp only [List.map_toArray, List.map_cons, List.map_nil]); first | done | rfl | (simp only [List.length_drop, List.length_take]; rfl)) ?_; (with_reducible refine (prio_Above.calls a0_0 a0_1 a1_0 a1_1 true _ A3.out).mono ?_); rintro e w10 ⟨rfl, hb⟩; refine ⟨_, rfl, ?_⟩; have n0_ := Aside0.mk (blk_below (g := gb223) (o := .cells #[.int .u64 a0_0, .int .u64 a0_1, .int .i64 a0_2] 56 (0, 0)) (by (with_reducible repeat (first | refine blk_drewN ?_ _ | refine blk_drew ?_ | refine blk_alloc ?_ _)); exact BK223.out) hb); have n1_ := Aside0.mk (blk_below (g := gb224) (o := .cells #[.int .u64 a1_0, .int .u64 a1_1, .int .i64 a1_2] 56 (0, 0)) (by (with_reducible repeat (first | refine blk_drewN ?_ _ | refine blk_drew ?_ | refine blk_alloc ?_ _)); exact BK224.out) hb); have n2_ := Aside0.mk (below_step (by repeat (first | (with_reducible first | exact HB.out | apply below_alloc | apply pw_below_drewN | apply below_drew1 | refine below_set ?_ GE223.out | refine below_set ?_ GE224.out) | exact HB.out)) hb); clear BK223; clear BK224; clear HB; have BK223 := n0_; have BK224 := n1_; have HB := n2_; clear n0_ n1_ n2_; (try clear hb); (try clear hb2); (try clear hk); (try clear hi)))
    go_ret
    exact ⟨by first | rfl | (simp [errW_none, errW_some] <;> rfl) | (simp [*, errW_none, errW_some] <;> rfl), by repeat (first | (with_reducible first | exact HB.out | apply below_alloc | apply pw_below_drewN | apply below_drew1 | refine below_set ?_ GE223.out | refine below_set ?_ GE224.out) | exact HB.out)⟩
  · replace c4 := Bool.eq_false_iff.mpr c4
    subst c4
    have H1 : ((prio_Above.f a1_0 a1_1 a0_0 a0_1).bind fun t226 => (if t226 = true then (some false) else (some (decide (a0_2 < a1_2))))) = some r := by rw [if_neg (show ¬ (false = true) by decide)] at H; exact H
    clear H
    have H := H1
    clear H1
    replace H := Option.bind_eq_some_iff.mp H
    obtain ⟨t226, A110, H⟩ := H
    replace H : (if t226 = true then (some false) else (some (decide (a0_2 < a1_2)))) = some r := H
    have A11 := Aside0.mk A110
    clear A110
    by_cases c12 : t226 = true
    · subst c12
      have H1 : (some false) = some r := by rw [if_pos rfl] at H; exact H
      clear H
      have H := H1
      clear H1
      obtain rfl := Option.some.inj H
      go_enter Try.func86, Try.ntmps86
      go_wp2_with (first | ((with_reducible refine gate_dst (N := 2) rfl ?_); refine box_event ?hg (N := 2) ?hd (cs := #[.int .u64 a0_0, .int .u64 a0_1, .int .i64 a0_2]) (t := 56) ?hr ?_; (case hd => rfl); (case hg => rfl); (case hr => first | (go_simp; done) | (go_simp; rfl)); intro gb223 hg w13 hbox hb; have n0_ := Aside0.mk (below_step (by repeat (first | (with_reducible first | exact HB.out | apply below_alloc | apply pw_below_drewN | apply below_drew1) | exact HB.out)) hb); have n1_ := Aside0.mk (hbox); have n2_ := Aside0.mk ((by rw [hg]; exact (below_size (by repeat (first | (with_reducible first | exact HB.out | apply below_alloc | apply pw_below_drewN | apply below_drew1) | exact HB.out))) : w.heap.size ≤ gb223)); have n3_ := Aside0.mk ((by rw [hg]; exact (below_size (by repeat (first | (with_reducible first | exact HB.out | apply below_alloc | apply pw_below_drewN | apply below_drew1) | exact HB.out))) : w.heap.size ≤ gb223)); clear HB; have HB := n0_; have BK223 := n1_; have GW223 := n2_; have GE223 := n3_; clear n0_ n1_ n2_ n3_; clear hb hbox hg) | ((with_reducible refine gate_dst (N := 3) rfl ?_); refine box_event ?hg (N := 3) ?hd (cs := #[.int .u64 a1_0, .int .u64 a1_1, .int .i64 a1_2]) (t := 56) ?hr ?_; (case hd => rfl); (case hg => rfl); (case hr => first | (go_simp; done) | (go_simp; rfl)); intro gb224 hg w14 hbox hb; have n0_ := Aside0.mk (blk_below (g := gb223) (o := .cells #[.int .u64 a0_0, .int .u64 a0_1, .int .i64 a0_2] 56 (0, 0)) (by (with_reducible repeat (first | refine blk_drewN ?_ _ | refine blk_drew ?_ | refine blk_alloc ?_ _)); exact BK223.out) hb); have n1_ := Aside0.mk (below_step (by repeat (first | (with_reducible first | exact HB.out | apply below_alloc | apply pw_below_drewN | apply below_drew1 | refine below_set ?_ GE223.out) | exact HB.out)) hb); have n2_ := Aside0.mk (hbox); have n3_ := Aside0.mk ((by rw [hg]; exact (below_size (by repeat (first | (with_reducible first | exact HB.out | apply below_alloc | apply pw_below_drewN | apply below_drew1 | refine below_set ?_ GE223.out) | exact HB.out))) : w.heap.size ≤ gb224)); have n4_ := Aside0.mk ((by rw [hg]; exact (below_size (by repeat (first | (with_reducible first | exact HB.out | apply below_alloc | apply pw_below_drewN | apply below_drew1 | refine below_set ?_ GE223.out) | exact HB.out))) : w.heap.size ≤ gb224)); have n5_ := Aside0.mk ((by rw [hg]; exact Nat.ne_of_lt (blk_lt (g := gb223) (o := .cells #[.int .u64 a0_0, .int .u64 a0_1, .int .i64 a0_2] 56 (0, 0)) (by (with_reducible repeat (first | refine blk_drewN ?_ _ | refine blk_drew ?_ | refine blk_alloc ?_ _)); exact BK223.out)) : gb223 ≠ gb224)); have n6_ := Aside0.mk ((by rw [hg]; exact Nat.ne_of_gt (blk_lt (g := gb223) (o := .cells #[.int .u64 a0_0, .int .u64 a0_1, .int .i64 a0_2] 56 (0, 0)) (by (with_reducible repeat (first | refine blk_drewN ?_ _ | refine blk_drew ?_ | refine blk_alloc ?_ _)); exact BK223.out)) : gb224 ≠ gb223)); clear BK223; clear HB; have BK223 := n0_; have HB := n1_; have BK224 := n2_; have GW224 := n3_; have GE224 := n4_; have NB223_224 := n5_; have NB224_223 := n6_; clear n0_ n1_ n2_ n3_ n4_ n5_ n6_; clear hb hbox hg; have hnb15 := NB223_224.out; have hnc15 := NB224_223.out; have hcz16_0 : w14.cell? ⟨gb223, 0, none⟩ = some (.int .u64 a0_0) := (blk_cell BK223.out 0).trans rfl; have hcz16_1 : w14.cell? ⟨gb223, 1, none⟩ = some (.int .u64 a0_1) := (blk_cell BK223.out 1).trans rfl; have hcz16_2 : w14.cell? ⟨gb223, 2, none⟩ = some (.int .i64 a0_2) := (blk_cell BK223.out 2).trans rfl; have hfz16_0 := blk_frozen BK223.out 0; have hfz16_1 := blk_frozen BK223.out 1; have hfz16_2 := blk_frozen BK223.out 2; have hcz17_0 : w14.cell? ⟨gb224, 0, none⟩ = some (.int .u64 a1_0) := (blk_cell BK224.out 0).trans rfl; have hcz17_1 : w14.cell? ⟨gb224, 1, none⟩ = some (.int .u64 a1_1) := (blk_cell BK224.out 1).trans rfl; have hcz17_2 : w14.cell? ⟨gb224, 2, none⟩ = some (.int .i64 a1_2) := (blk_cell BK224.out 2).trans rfl; have hfz17_0 := blk_frozen BK224.out 0; have hfz17_1 := blk_frozen BK224.out 1; have hfz17_2 := blk_frozen BK224.out 2) | ((with_reducible refine gate_callee (f := 16) rfl ?_); refine goesL_ (some 14) rfl rfl Try.func16 (by kernel_rfl) rfl #[.int .u64 a0_0, .int .u64 a0_1, .int .u64 a1_0, .int .u64 a1_1] rfl (by (try simp only [List.map_toArray, List.map_cons, List.map_nil]); first | done | rfl | (simp only [List.length_drop, List.length_take]; rfl)) ?_; (with_reducible refine (prio_Above.calls a0_0 a0_1 a1_0 a1_1 false _ A3.out).mono ?_); rintro e w18 ⟨rfl, hb⟩; refine ⟨_, rfl, ?_⟩; have n0_ := Aside0.mk (blk_below (g := gb223) (o := .cells #[.int .u64 a0_0, .int .u64 a0_1, .int .i64 a0_2] 56 (0, 0)) (by (with_reducible repeat (first | refine blk_drewN ?_ _ | refine blk_drew ?_ | refine blk_alloc ?_ _)); exact BK223.out) hb); have n1_ := Aside0.mk (blk_below (g := gb224) (o := .cells #[.int .u64 a1_0, .int .u64 a1_1, .int .i64 a1_2] 56 (0, 0)) (by (with_reducible repeat (first | refine blk_drewN ?_ _ | refine blk_drew ?_ | refine blk_alloc ?_ _)); exact BK224.out) hb); have n2_ := Aside0.mk (below_step (by repeat (first | (with_reducible first | exact HB.out | apply below_alloc | apply pw_below_drewN | apply below_drew1 | refine below_set ?_ GE223.out | refine below_set ?_ GE224.out) | exact HB.out)) hb); clear BK223; clear BK224; clear HB; have BK223 := n0_; have BK224 := n1_; have HB := n2_; clear n0_ n1_ n2_; (try clear hb); (try clear hb2); (try clear hk); (try clear hi); have hcz19_0 : w18.cell? ⟨gb224, 0, none⟩ = some (.int .u64 a1_0) := (blk_cell BK224.out 0).trans rfl; have hcz19_1 : w18.cell? ⟨gb224, 1, none⟩ = some (.int .u64 a1_1) := (blk_cell BK224.out 1).trans rfl; have hcz19_2 : w18.cell? ⟨gb224, 2, none⟩ = some (.int .i64 a1_2) := (blk_cell BK224.out 2).trans rfl; have hfz19_0 := blk_frozen BK224.out 0; have hfz19_1 := blk_frozen BK224.out 1; have hfz19_2 := blk_frozen BK224.out 2; have hcz20_0 : w18.cell? ⟨gb223, 0, none⟩ = some (.int .u64 a0_0) := (blk_cell BK223.out 0).trans rfl; have hcz20_1 : w18.cell? ⟨gb223, 1, none⟩ = some (.int .u64 a0_1) := (blk_cell BK223.out 1).trans rfl; have hcz20_2 : w18.cell? ⟨gb223, 2, none⟩ = some (.int .i64 a0_2) := (blk_cell BK223.out 2).trans rfl; have hfz20_0 := blk_frozen BK223.out 0; have hfz20_1 := blk_frozen BK223.out 1; have hfz20_2 := blk_frozen BK223.out 2) | ((with_reducible refine gate_callee (f := 16) rfl ?_); refine goesL_ (some 24) rfl rfl Try.func16 (by kernel_rfl) rfl #[.int .u64 a1_0, .int .u64 a1_1, .int .u64 a0_0, .int .u64 a0_1] rfl (by (try simp only [List.map_toArray, List.map_cons, List.map_nil]); first | done | rfl | (simp only [List.length_drop, List.length_take]; rfl)) ?_; (with_reducible refine (prio_Above.calls a1_0 a1_1 a0_0 a0_1 true _ A11.out).mono ?_); rintro e w21 ⟨rfl, hb⟩; refine ⟨_, rfl, ?_⟩; have n0_ := Aside0.mk (blk_below (g := gb223) (o := .cells #[.int .u64 a0_0, .int .u64 a0_1, .int .i64 a0_2] 56 (0, 0)) (by (with_reducible repeat (first | refine blk_drewN ?_ _ | refine blk_drew ?_ | refine blk_alloc ?_ _)); exact BK223.out) hb); have n1_ := Aside0.mk (blk_below (g := gb224) (o := .cells #[.int .u64 a1_0, .int .u64 a1_1, .int .i64 a1_2] 56 (0, 0)) (by (with_reducible repeat (first | refine blk_drewN ?_ _ | refine blk_drew ?_ | refine blk_alloc ?_ _)); exact BK224.out) hb); have n2_ := Aside0.mk (below_step (by repeat (first | (with_reducible first | exact HB.out | apply below_alloc | apply pw_below_drewN | apply below_drew1 | refine below_set ?_ GE223.out | refine below_set ?_ GE224.out) | exact HB.out)) hb); clear BK223; clear BK224; clear HB; have BK223 := n0_; have BK224 := n1_; have HB := n2_; clear n0_ n1_ n2_; (try clear hb); (try clear hb2); (try clear hk); (try clear hi)))
      go_ret
      exact ⟨by first | rfl | (simp [errW_none, errW_some] <;> rfl) | (simp [*, errW_none, errW_some] <;> rfl), by repeat (first | (with_reducible first | exact HB.out | apply below_alloc | apply pw_below_drewN | apply below_drew1 | refine below_set ?_ GE223.out | refine below_set ?_ GE224.out) | exact HB.out)⟩
    · replace c12 := Bool.eq_false_iff.mpr c12
      subst c12
      have H1 : (some (decide (a0_2 < a1_2))) = some r := by rw [if_neg (show ¬ (false = true) by decide)] at H; exact H
      clear H
      have H := H1
      clear H1
      obtain rfl := Option.some.inj H
      go_enter Try.func86, Try.ntmps86
      go_wp2_with (first | ((with_reducible refine gate_dst (N := 2) rfl ?_); refine box_event ?hg (N := 2) ?hd (cs := #[.int .u64 a0_0, .int .u64 a0_1, .int .i64 a0_2]) (t := 56) ?hr ?_; (case hd => rfl); (case hg => rfl); (case hr => first | (go_simp; done) | (go_simp; rfl)); intro gb223 hg w22 hbox hb; have n0_ := Aside0.mk (below_step (by repeat (first | (with_reducible first | exact HB.out | apply below_alloc | apply pw_below_drewN | apply below_drew1) | exact HB.out)) hb); have n1_ := Aside0.mk (hbox); have n2_ := Aside0.mk ((by rw [hg]; exact (below_size (by repeat (first | (with_reducible first | exact HB.out | apply below_alloc | apply pw_below_drewN | apply below_drew1) | exact HB.out))) : w.heap.size ≤ gb223)); have n3_ := Aside0.mk ((by rw [hg]; exact (below_size (by repeat (first | (with_reducible first | exact HB.out | apply below_alloc | apply pw_below_drewN | apply below_drew1) | exact HB.out))) : w.heap.size ≤ gb223)); clear HB; have HB := n0_; have BK223 := n1_; have GW223 := n2_; have GE223 := n3_; clear n0_ n1_ n2_ n3_; clear hb hbox hg) | ((with_reducible refine gate_dst (N := 3) rfl ?_); refine box_event ?hg (N := 3) ?hd (cs := #[.int .u64 a1_0, .int .u64 a1_1, .int .i64 a1_2]) (t := 56) ?hr ?_; (case hd => rfl); (case hg => rfl); (case hr => first | (go_simp; done) | (go_simp; rfl)); intro gb224 hg w23 hbox hb; have n0_ := Aside0.mk (blk_below (g := gb223) (o := .cells #[.int .u64 a0_0, .int .u64 a0_1, .int .i64 a0_2] 56 (0, 0)) (by (with_reducible repeat (first | refine blk_drewN ?_ _ | refine blk_drew ?_ | refine blk_alloc ?_ _)); exact BK223.out) hb); have n1_ := Aside0.mk (below_step (by repeat (first | (with_reducible first | exact HB.out | apply below_alloc | apply pw_below_drewN | apply below_drew1 | refine below_set ?_ GE223.out) | exact HB.out)) hb); have n2_ := Aside0.mk (hbox); have n3_ := Aside0.mk ((by rw [hg]; exact (below_size (by repeat (first | (with_reducible first | exact HB.out | apply below_alloc | apply pw_below_drewN | apply below_drew1 | refine below_set ?_ GE223.out) | exact HB.out))) : w.heap.size ≤ gb224)); have n4_ := Aside0.mk ((by rw [hg]; exact (below_size (by repeat (first | (with_reducible first | exact HB.out | apply below_alloc | apply pw_below_drewN | apply below_drew1 | refine below_set ?_ GE223.out) | exact HB.out))) : w.heap.size ≤ gb224)); have n5_ := Aside0.mk ((by rw [hg]; exact Nat.ne_of_lt (blk_lt (g := gb223) (o := .cells #[.int .u64 a0_0, .int .u64 a0_1, .int .i64 a0_2] 56 (0, 0)) (by (with_reducible repeat (first | refine blk_drewN ?_ _ | refine blk_drew ?_ | refine blk_alloc ?_ _)); exact BK223.out)) : gb223 ≠ gb224)); have n6_ := Aside0.mk ((by rw [hg]; exact Nat.ne_of_gt (blk_lt (g := gb223) (o := .cells #[.int .u64 a0_0, .int .u64 a0_1, .int .i64 a0_2] 56 (0, 0)) (by (with_reducible repeat (first | refine blk_drewN ?_ _ | refine blk_drew ?_ | refine blk_alloc ?_ _)); exact BK223.out)) : gb224 ≠ gb223)); clear BK223; clear HB; have BK223 := n0_; have HB := n1_; have BK224 := n2_; have GW224 := n3_; have GE224 := n4_; have NB223_224 := n5_; have NB224_223 := n6_; clear n0_ n1_ n2_ n3_ n4_ n5_ n6_; clear hb hbox hg; have hnb24 := NB223_224.out; have hnc24 := NB224_223.out; have hcz25_0 : w23.cell? ⟨gb223, 0, none⟩ = some (.int .u64 a0_0) := (blk_cell BK223.out 0).trans rfl; have hcz25_1 : w23.cell? ⟨gb223, 1, none⟩ = some (.int .u64 a0_1) := (blk_cell BK223.out 1).trans rfl; have hcz25_2 : w23.cell? ⟨gb223, 2, none⟩ = some (.int .i64 a0_2) := (blk_cell BK223.out 2).trans rfl; have hfz25_0 := blk_frozen BK223.out 0; have hfz25_1 := blk_frozen BK223.out 1; have hfz25_2 := blk_frozen BK223.out 2; have hcz26_0 : w23.cell? ⟨gb224, 0, none⟩ = some (.int .u64 a1_0) := (blk_cell BK224.out 0).trans rfl; have hcz26_1 : w23.cell? ⟨gb224, 1, none⟩ = some (.int .u64 a1_1) := (blk_cell BK224.out 1).trans rfl; have hcz26_2 : w23.cell? ⟨gb224, 2, none⟩ = some (.int .i64 a1_2) := (blk_cell BK224.out 2).trans rfl; have hfz26_0 := blk_frozen BK224.out 0; have hfz26_1 := blk_frozen BK224.out 1; have hfz26_2 := blk_frozen BK224.out 2) | ((with_reducible refine gate_callee (f := 16) rfl ?_); refine goesL_ (some 14) rfl rfl Try.func16 (by kernel_rfl) rfl #[.int .u64 a0_0, .int .u64 a0_1, .int .u64 a1_0, .int .u64 a1_1] rfl (by (try simp only [List.map_toArray, List.map_cons, List.map_nil]); first | done | rfl | (simp only [List.length_drop, List.length_take]; rfl)) ?_; (with_reducible refine (prio_Above.calls a0_0 a0_1 a1_0 a1_1 false _ A3.out).mono ?_); rintro e w27 ⟨rfl, hb⟩; refine ⟨_, rfl, ?_⟩; have n0_ := Aside0.mk (blk_below (g := gb223) (o := .cells #[.int .u64 a0_0, .int .u64 a0_1, .int .i64 a0_2] 56 (0, 0)) (by (with_reducible repeat (first | refine blk_drewN ?_ _ | refine blk_drew ?_ | refine blk_alloc ?_ _)); exact BK223.out) hb); have n1_ := Aside0.mk (blk_below (g := gb224) (o := .cells #[.int .u64 a1_0, .int .u64 a1_1, .int .i64 a1_2] 56 (0, 0)) (by (with_reducible repeat (first | refine blk_drewN ?_ _ | refine blk_drew ?_ | refine blk_alloc ?_ _)); exact BK224.out) hb); have n2_ := Aside0.mk (below_step (by repeat (first | (with_reducible first | exact HB.out | apply below_alloc | apply pw_below_drewN | apply below_drew1 | refine below_set ?_ GE223.out | refine below_set ?_ GE224.out) | exact HB.out)) hb); clear BK223; clear BK224; clear HB; have BK223 := n0_; have BK224 := n1_; have HB := n2_; clear n0_ n1_ n2_; (try clear hb); (try clear hb2); (try clear hk); (try clear hi); have hcz28_0 : w27.cell? ⟨gb224, 0, none⟩ = some (.int .u64 a1_0) := (blk_cell BK224.out 0).trans rfl; have hcz28_1 : w27.cell? ⟨gb224, 1, none⟩ = some (.int .u64 a1_1) := (blk_cell BK224.out 1).trans rfl; have hcz28_2 : w27.cell? ⟨gb224, 2, none⟩ = some (.int .i64 a1_2) := (blk_cell BK224.out 2).trans rfl; have hfz28_0 := blk_frozen BK224.out 0; have hfz28_1 := blk_frozen BK224.out 1; have hfz28_2 := blk_frozen BK224.out 2; have hcz29_0 : w27.cell? ⟨gb223, 0, none⟩ = some (.int .u64 a0_0) := (blk_cell BK223.out 0).trans rfl; have hcz29_1 : w27.cell? ⟨gb223, 1, none⟩ = some (.int .u64 a0_1) := (blk_cell BK223.out 1).trans rfl; have hcz29_2 : w27.cell? ⟨gb223, 2, none⟩ = some (.int .i64 a0_2) := (blk_cell BK223.out 2).trans rfl; have hfz29_0 := blk_frozen BK223.out 0; have hfz29_1 := blk_frozen BK223.out 1; have hfz29_2 := blk_frozen BK223.out 2) | ((with_reducible refine gate_callee (f := 16) rfl ?_); refine goesL_ (some 24) rfl rfl Try.func16 (by kernel_rfl) rfl #[.int .u64 a1_0, .int .u64 a1_1, .int .u64 a0_0, .int .u64 a0_1] rfl (by (try simp only [List.map_toArray, List.map_cons, List.map_nil]); first | done | rfl | (simp only [List.length_drop, List.length_take]; rfl)) ?_; (with_reducible refine (prio_Above.calls a1_0 a1_1 a0_0 a0_1 false _ A11.out).mono ?_); rintro e w30 ⟨rfl, hb⟩; refine ⟨_, rfl, ?_⟩; have n0_ := Aside0.mk (blk_below (g := gb223) (o := .cells #[.int .u64 a0_0, .int .u64 a0_1, .int .i64 a0_2] 56 (0, 0)) (by (with_reducible repeat (first | refine blk_drewN ?_ _ | refine blk_drew ?_ | refine blk_alloc ?_ _)); exact BK223.out) hb); have n1_ := Aside0.mk (blk_below (g := gb224) (o := .cells #[.int .u64 a1_0, .int .u64 a1_1, .int .i64 a1_2] 56 (0, 0)) (by (with_reducible repeat (first | refine blk_drewN ?_ _ | refine blk_drew ?_ | refine blk_alloc ?_ _)); exact BK224.out) hb); have n2_ := Aside0.mk (below_step (by repeat (first | (with_reducible first | exact HB.out | apply below_alloc | apply pw_below_drewN | apply below_drew1 | refine below_set ?_ GE223.out | refine below_set ?_ GE224.out) | exact HB.out)) hb); clear BK223; clear BK224; clear HB; have BK223 := n0_; have BK224 := n1_; have HB := n2_; clear n0_ n1_ n2_; (try clear hb); (try clear hb2); (try clear hk); (try clear hi); have hcz31_0 : w30.cell? ⟨gb223, 0, none⟩ = some (.int .u64 a0_0) := (blk_cell BK223.out 0).trans rfl; have hcz31_1 : w30.cell? ⟨gb223, 1, none⟩ = some (.int .u64 a0_1) := (blk_cell BK223.out 1).trans rfl; have hcz31_2 : w30.cell? ⟨gb223, 2, none⟩ = some (.int .i64 a0_2) := (blk_cell BK223.out 2).trans rfl; have hfz31_0 := blk_frozen BK223.out 0; have hfz31_1 := blk_frozen BK223.out 1; have hfz31_2 := blk_frozen BK223.out 2; have hcz32_0 : w30.cell? ⟨gb224, 0, none⟩ = some (.int .u64 a1_0) := (blk_cell BK224.out 0).trans rfl; have hcz32_1 : w30.cell? ⟨gb224, 1, none⟩ = some (.int .u64 a1_1) := (blk_cell BK224.out 1).trans rfl; have hcz32_2 : w30.cell? ⟨gb224, 2, none⟩ = some (.int .i64 a1_2) := (blk_cell BK224.out 2).trans rfl; have hfz32_0 := blk_frozen BK224.out 0; have hfz32_1 := blk_frozen BK224.out 1; have hfz32_2 := blk_frozen BK224.out 2))
      go_ret
      exact ⟨by first | rfl | (simp [errW_none, errW_some] <;> rfl) | (simp [*, errW_none, errW_some] <;> rfl), by repeat (first | (with_reducible first | exact HB.out | apply below_alloc | apply pw_below_drewN | apply below_drew1 | refine below_set ?_ GE223.out | refine below_set ?_ GE224.out) | exact HB.out)⟩

/-! ### prio_least_Less: function 84 -/
def prio_least_Less.f (l0 : List (S56)) (a1 : Int) (a2 : Int) : Option (Bool) := if 0 ≤ a2 then (if a2 < (l0.length : Int) then (if 0 ≤ a1 then (if a1 < (l0.length : Int) then ((prio_offer_above.f ((rd_T56 l0 a2).f0) ((rd_T56 l0 a2).f1) ((rd_T56 l0 a2).f2) ((rd_T56 l0 a1).f0) ((rd_T56 l0 a1).f1) ((rd_T56 l0 a1).f2)).bind fun t229 => (some t229)) else (none)) else (none)) else (none)) else (none)
def prio_least_Less.T1 : Bool × List (List Nat × List Nat) := (true, [([], []), ([], []), ([0, 1], [0, 1]), ([2], [2]), ([], []), ([], []), ([4, 5], [4, 5]), ([6], [6]), ([3, 7], [3, 7]), ([8, 8, 0, 1, 2, 3, 4, 5, 6, 7, 8], [8])])
def prio_least_Less.B1 : List Nat := [0, 0, 3, 7, 0, 0, 48, 112, 255, 511]
theorem prio_least_Less.tab1 : rtab .any (opsOf Try.f84 1) = prio_least_Less.T1 := by kernel_rfl
theorem prio_least_Less.bits1 : waitsOk prio_least_Less.T1.2 prio_least_Less.B1 = true := by kernel_rfl
set_option maxHeartbeats 8000000 in
set_option maxRecDepth 100000 in
theorem prio_least_Less.calls (A0 : Option Addr) (c0 : Nat) (l0 : List (S56)) (a1 : Int) (a2 : Int) (r : Bool) (w : World) (hr0 : Kd.C k56 w A0 l0.length l0) (hc0 : l0.length ≤ c0) (h : prio_least_Less.f l0 a1 a2 = some r) :
    Calls Try.prog 84 #[.slice A0 l0.length c0, .int .i64 a1, .int .i64 a2] w fun e w' => e = .returned (.bool r) ∧ Below w.heap.size w w' := by
  have hu56 := Try.underlying56
  have HR0 := Aside0.mk hr0
  have HC0 := Aside0.mk hc0
  clear hr0 hc0
  have HB := Aside0.mk (Below.refl w.heap.size w)
  have H : (if 0 ≤ a2 then (if a2 < (l0.length : Int) then (if 0 ≤ a1 then (if a1 < (l0.length : Int) then ((prio_offer_above.f ((rd_T56 l0 a2).f0) ((rd_T56 l0 a2).f1) ((rd_T56 l0 a2).f2) ((rd_T56 l0 a1).f0) ((rd_T56 l0 a1).f1) ((rd_T56 l0 a1).f2)).bind fun t229 => (some t229)) else (none)) else (none)) else (none)) else (none)) = some r := h
  clear h
  by_cases c4 : 0 ≤ a2
  · rw [if_pos c4] at H
    have c4b0 : decide (0 ≤ a2) = true := decide_eq_true c4
    clear c4
    by_cases c5 : a2 < (l0.length : Int)
    · rw [if_pos c5] at H
      have c5b0 : decide (a2 < (l0.length : Int)) = true := decide_eq_true c5
      clear c5
      by_cases c6 : 0 ≤ a1
      · rw [if_pos c6] at H
        have c6b0 : decide (0 ≤ a1) = true := decide_eq_true c6
        clear c6
        by_cases c7 : a1 < (l0.length : Int)
        · rw [if_pos c7] at H
          have c7b0 : decide (a1 < (l0.length : Int)) = true := decide_eq_true c7
          clear c7
          replace H := Option.bind_eq_some_iff.mp H
          obtain ⟨t229, A80, H⟩ := H
          replace H : (some t229) = some r := H
          have A8 := Aside0.mk A80
          clear A80
          obtain rfl := Option.some.inj H
          go_enter Try.func84, Try.ntmps84
          try go_wp2
          have n0_ := Aside0.mk (below_drew1 HB.out)
          clear HB
          have HB := n0_
          clear n0_
          have p227 : 0 ≤ (a2 : Int) := of_decide_eq_true (by first | (with_reducible assumption) | assumption)
          have q227 : a2 < (l0.length : Int) := of_decide_eq_true (by first | (with_reducible assumption) | assumption)
          obtain ⟨ad227, e227, hx227_0, hx227_1, hx227_2⟩ := at_T56 HR0.out a2 p227 q227
          have hw227_2 := hx227_2
          have hw227_1 := hx227_1
          have hw227_0 := hx227_0
          cases e227
          replace hx227_0 := (HB.out.cell (World.block_lt_of_cell? w _ hx227_0)).trans hx227_0
          replace hx227_1 := (HB.out.cell (World.block_lt_of_cell? w _ hx227_1)).trans hx227_1
          replace hx227_2 := (HB.out.cell (World.block_lt_of_cell? w _ hx227_2)).trans hx227_2
          replace p227 := eq_true p227
          replace q227 := eq_true q227
          have p228 : 0 ≤ (a1 : Int) := of_decide_eq_true (by first | (with_reducible assumption) | assumption)
          have q228 : a1 < (l0.length : Int) := of_decide_eq_true (by first | (with_reducible assumption) | assumption)
          obtain ⟨ad228, e228, hx228_0, hx228_1, hx228_2⟩ := at_T56 HR0.out a1 p228 q228
          have hw228_2 := hx228_2
          have hw228_1 := hx228_1
          have hw228_0 := hx228_0
          obtain rfl : ad227 = ad228 := (by injection e228)
          replace hx228_0 := (HB.out.cell (World.block_lt_of_cell? w _ hx228_0)).trans hx228_0
          replace hx228_1 := (HB.out.cell (World.block_lt_of_cell? w _ hx228_1)).trans hx228_1
          replace hx228_2 := (HB.out.cell (World.block_lt_of_cell? w _ hx228_2)).trans hx228_2
          replace p228 := eq_true p228
          replace q228 := eq_true q228
          refine start_ (n := 10) (S := fun w' => w'.cell? (ad227.add ((a2).toNat * 3)) = some (.int .u64 ((rd_T56 l0 a2).f0)) ∧ w'.cell? ⟨(ad227.add ((a2).toNat * 3)).block, (ad227.add ((a2).toNat * 3)).off + 1, none⟩ = some (.int .u64 ((rd_T56 l0 a2).f1)) ∧ w'.cell? ⟨(ad227.add ((a2).toNat * 3)).block, (ad227.add ((a2).toNat * 3)).off + 2, none⟩ = some (.int .i64 ((rd_T56 l0 a2).f2)) ∧ w'.cell? (ad227.add ((a1).toNat * 3)) = some (.int .u64 ((rd_T56 l0 a1).f0)) ∧ w'.cell? ⟨(ad227.add ((a1).toNat * 3)).block, (ad227.add ((a1).toNat * 3)).off + 1, none⟩ = some (.int .u64 ((rd_T56 l0 a1).f1)) ∧ w'.cell? ⟨(ad227.add ((a1).toNat * 3)).block, (ad227.add ((a1).toNat * 3)).off + 2, none⟩ = some (.int .i64 ((rd_T56 l0 a1).f2))) (ds := []) #[false, false, false, false, false, false, false, false, false, false] (by kernel_rfl) rfl rfl ⟨((HB.out.cell (World.block_lt_of_cell? w _ hw227_0)).trans hw227_0), ((HB.out.cell (World.block_lt_of_cell? w _ hw227_1)).trans hw227_1), ((HB.out.cell (World.block_lt_of_cell? w _ hw227_2)).trans hw227_2), ((HB.out.cell (World.block_lt_of_cell? w _ hw228_0)).trans hw228_0), ((HB.out.cell (World.block_lt_of_cell? w _ hw228_1)).trans hw228_1), ((HB.out.cell (World.block_lt_of_cell? w _ hw228_2)).trans hw228_2)⟩ (fun hHeld => ?_); refine with_tabW prio_least_Less.tab1 prio_least_Less.bits1 (fun HT_ HW_ => ?_)
          generalize w.drew = w9 at HB hx227_0 hx227_1 hx227_2 hx228_0 hx228_1 hx228_2 hHeld ⊢
          refine pure_ (i := 0) (N := some 7) (v := ?_) (a' := ?_) #[true, false, false, false, false, false, false, false, false, false] rfl rfl (any_of HT_.out (by kernel_rfl)) (fun _ _ _ h => h) (Or.inl ⟨by rfl, ?_⟩) ?_ ?_
          rotate_left
          · intro w'
            go_simp
            with_reducible rfl
          rotate_left
          · simp only [Act.put, List.setIfInBounds_toArray, List.set_cons_zero, List.set_cons_succ, i64_w, i32_w]
            rfl
          refine pure_ (i := 1) (N := some 8) (v := ?_) (a' := ?_) #[true, true, false, false, false, false, false, false, false, false] rfl rfl (any_of HT_.out (by kernel_rfl)) (fun _ _ _ h => h) (Or.inl ⟨by rfl, ?_⟩) ?_ ?_
          rotate_left
          · intro w'
            go_simp
            with_reducible rfl
          rotate_left
          · simp only [Act.put, List.setIfInBounds_toArray, List.set_cons_zero, List.set_cons_succ, i64_w, i32_w]
            rfl
          refine pure_ (i := 2) (N := some 9) (v := ?_) (a' := ?_) #[true, true, true, false, false, false, false, false, false, false] rfl rfl (any_of HT_.out (by kernel_rfl)) (fun _ _ _ h => h) (Or.inl ⟨by rfl, ?_⟩) ?_ ?_
          rotate_left
          · intro w'
            go_simp
            with_reducible rfl
          rotate_left
          · simp only [Act.put, List.setIfInBounds_toArray, List.set_cons_zero, List.set_cons_succ, i64_w, i32_w]
            rfl
          refine pure_ (i := 4) (N := some 11) (v := ?_) (a' := ?_) #[true, true, true, false, true, false, false, false, false, false] rfl rfl (any_of HT_.out (by kernel_rfl)) (fun _ _ _ h => h) (Or.inl ⟨by rfl, ?_⟩) ?_ ?_
          rotate_left
          · intro w'
            go_simp
            with_reducible rfl
          rotate_left
          · simp only [Act.put, List.setIfInBounds_toArray, List.set_cons_zero, List.set_cons_succ, i64_w, i32_w]
            rfl
          refine pure_ (i := 5) (N := some 12) (v := ?_) (a' := ?_) #[true, true, true, false, true, true, false, false, false, false] rfl rfl (any_of HT_.out (by kernel_rfl)) (fun _ _ _ h => h) (Or.inl ⟨by rfl, ?_⟩) ?_ ?_
          rotate_left
          · intro w'
            go_simp
            with_reducible rfl
          rotate_left
          · simp only [Act.put, List.setIfInBounds_toArray, List.set_cons_zero, List.set_cons_succ, i64_w, i32_w]
            rfl
          refine pure_ (i := 6) (N := some 13) (v := ?_) (a' := ?_) #[true, true, true, false, true, true, true, false, false, false] rfl rfl (any_of HT_.out (by kernel_rfl)) (fun _ _ _ h => h) (Or.inl ⟨by rfl, ?_⟩) ?_ ?_
          rotate_left
          · intro w'
            go_simp
            with_reducible rfl
          rotate_left
          · simp only [Act.put, List.setIfInBounds_toArray, List.set_cons_zero, List.set_cons_succ, i64_w, i32_w]
            rfl
          refine take_ (i := 3) (N := some 10) (v := ?_) (a' := ?_) #[true, true, true, true, true, true, true, false, false, false] rfl rfl (take_ofW HT_.out HW_.out (by kernel_rfl)) (fun _ _ _ h => h) (Or.inl ⟨by rfl, ?_⟩) hHeld ?_ ?_
          rotate_left
          · rintro w' ⟨s0, s1, s2, s3, s4, s5⟩
            go_simp
            with_reducible rfl
          rotate_left
          · simp only [Act.put, List.setIfInBounds_toArray, List.set_cons_zero, List.set_cons_succ, i64_w, i32_w]
            rfl
          refine take_ (i := 7) (N := some 14) (v := ?_) (a' := ?_) #[true, true, true, true, true, true, true, true, false, false] rfl rfl (take_ofW HT_.out HW_.out (by kernel_rfl)) (fun _ _ _ h => h) (Or.inl ⟨by rfl, ?_⟩) hHeld ?_ ?_
          rotate_left
          · rintro w' ⟨s0, s1, s2, s3, s4, s5⟩
            go_simp
            with_reducible rfl
          rotate_left
          · simp only [Act.put, List.setIfInBounds_toArray, List.set_cons_zero, List.set_cons_succ, i64_w, i32_w]
            rfl
          refine one_ (i := 8) (N := some 15) #[true, true, true, true, true, true, true, true, true, false] rfl rfl (one_of HT_.out (by kernel_rfl)) (by decide) (fun K hK => ?_)
          refine goes_ Try.func86 (by kernel_rfl) rfl #[.agg #[.int .u64 ((rd_T56 l0 a2).f0), .int .u64 ((rd_T56 l0 a2).f1), .int .i64 ((rd_T56 l0 a2).f2)], .agg #[.int .u64 ((rd_T56 l0 a1).f0), .int .u64 ((rd_T56 l0 a1).f1), .int .i64 ((rd_T56 l0 a1).f2)]] (by rfl) rfl rfl (by (try simp only [List.map_toArray, List.map_cons, List.map_nil]); first | done | rfl | (simp only [List.length_drop, List.length_take]; rfl)) ?_
          with_reducible refine (prio_offer_above.calls ((rd_T56 l0 a2).f0) ((rd_T56 l0 a2).f1) ((rd_T56 l0 a2).f2) ((rd_T56 l0 a1).f0) ((rd_T56 l0 a1).f1) ((rd_T56 l0 a1).f2) t229 _ A8.out).mono ?_
          rintro e w10 ⟨rfl, hb⟩
          refine ⟨_, rfl, ?_⟩
          have n0_ := Aside0.mk (below_step (by repeat (first | (with_reducible first | exact HB.out | apply below_alloc | apply pw_below_drewN | apply below_drew1) | exact HB.out)) hb)
          clear HB
          have HB := n0_
          clear n0_
          (try clear hb)
          (try clear hb2)
          (try clear hk)
          (try clear hi)
          refine hK.out _ _ ⟨((HB.out.cell (World.block_lt_of_cell? w _ hw227_0)).trans hw227_0), ((HB.out.cell (World.block_lt_of_cell? w _ hw227_1)).trans hw227_1), ((HB.out.cell (World.block_lt_of_cell? w _ hw227_2)).trans hw227_2), ((HB.out.cell (World.block_lt_of_cell? w _ hw228_0)).trans hw228_0), ((HB.out.cell (World.block_lt_of_cell? w _ hw228_1)).trans hw228_1), ((HB.out.cell (World.block_lt_of_cell? w _ hw228_2)).trans hw228_2)⟩ (fun hHeld => ?_)
          clear hK K
          refine norm_ (a' := ?_) ?_ ?_
          rotate_left
          · show Act.put _ (some 15) _ = _
            simp only [Act.put, List.setIfInBounds_toArray, List.set_cons_zero, List.set_cons_succ, i64_w, i32_w]
            rfl
          refine pure_ (i := 9) (N := some 6) (v := ?_) (a' := ?_) #[true, true, true, true, true, true, true, true, true, true] rfl rfl (any_of HT_.out (by kernel_rfl)) (fun _ _ _ h => h) (Or.inl ⟨by rfl, ?_⟩) ?_ ?_
          rotate_left
          · intro w'
            go_simp
            with_reducible rfl
          rotate_left
          · simp only [Act.put, List.setIfInBounds_toArray, List.set_cons_zero, List.set_cons_succ, i64_w, i32_w]
            rfl
          refine done_ (done_of HT_.out (by kernel_rfl)) ?_
          try go_wp2
          go_ret
          exact ⟨by first | rfl | (simp [errW_none, errW_some] <;> rfl) | (simp [*, errW_none, errW_some] <;> rfl), by repeat (first | (with_reducible first | exact HB.out | apply below_alloc | apply pw_below_drewN | apply below_drew1) | exact HB.out)⟩
        · rw [if_neg c7] at H
          exact absurd H (by simp)
      · rw [if_neg c6] at H
        exact absurd H (by simp)
    · rw [if_neg c5] at H
      exact absurd H (by simp)
  · rw [if_neg c4] at H
    exact absurd H (by simp)

-- NOT PRINTED: function 85 (prio_least_Swap)

/-! ### prio_least_Len: function 83 -/
def prio_least_Len.f (l0 : List (S56)) : Option (Int) := some (l0.length : Int)
set_option maxHeartbeats 8000000 in
set_option maxRecDepth 100000 in
theorem prio_least_Len.calls (A0 : Option Addr) (c0 : Nat) (l0 : List (S56)) (r : Int) (w : World) (hr0 : Kd.C k56 w A0 l0.length l0) (hc0 : l0.length ≤ c0) (h : prio_least_Len.f l0 = some r) :
    Calls Try.prog 83 #[.slice A0 l0.length c0] w fun e w' => e = .returned (.int .i64 r) ∧ Drawn0 w w' := by
  have HR0 := Aside0.mk hr0
  have HC0 := Aside0.mk hc0
  clear hr0 hc0
  have H : (some (l0.length : Int)) = some r := h
  clear h
  obtain rfl := Option.some.inj H
  go_enter Try.func83, Try.ntmps83
  go_wp2
  go_ret
  exact ⟨by first | rfl | (simp; done) | (simp [*]; done), by repeat (first | exact Drawn0.refl _ | apply Drawn0.step)⟩

-- NOT PRINTED: function 24 (prio_Sampler_Close_1)

-- NOT PRINTED: function 10 (prio_New)

/-! ### prio_Sampler_Len: function 14 -/
def prio_Sampler_Len.f (s0_0 : List (S56)) (s0_1 : Int) (s0_2 : Int) (s0_3 : Int) : Option (Int × Int × Int × Int) := some (s0_3, s0_1, s0_2, s0_3)
set_option maxHeartbeats 8000000 in
set_option maxRecDepth 100000 in
theorem prio_Sampler_Len.calls (g : Nat) (s0_0 : List (S56)) (s0_1 : Int) (s0_2 : Int) (s0_3 : Int) (r1 : Int) (r2 : Int) (r3 : Int) (r4 : Int) (w0 w : World) (hI : IsS54 w0 w g s0_0 s0_1 s0_2 s0_3) (hB : Below w0.heap.size w0 w) (h : prio_Sampler_Len.f s0_0 s0_1 s0_2 s0_3 = some (r1, r2, r3, r4)) :
    Calls Try.prog 14 #[.pointer (some ⟨g, 0, none⟩)] w fun e w' => e = .returned (.int .i64 r1) ∧ IsS54 w0 w' g s0_0 r2 r3 r4 ∧ Below w0.heap.size w0 w' ∧ KeepBut w w' g none := by
  have HI0 := Aside0.mk hI
  have HK := Aside0.mk (KeepBut.refl w g none)
  have HL := Aside0.mk hB.size
  clear hI
  have HW0 := Aside0.mk hB.size
  have HB := Aside0.mk hB
  clear hB
  have H : (some (s0_3, s0_1, s0_2, s0_3)) = some (r1, r2, r3, r4) := h
  clear h
  simp only [Option.some.injEq, Prod.mk.injEq] at H
  obtain ⟨rfl, rfl, rfl, rfl⟩ := H
  obtain ⟨ASz2_0, cSz2_0, HGz2, hgz2, HSz2_0⟩ := HI0.out
  have hcz2_0 := cellS54_0 HGz2
  have hcz2_1 := cellS54_1 HGz2
  have hcz2_2 := cellS54_2 HGz2
  have hcz2_3 := cellS54_3 HGz2
  have hfz2_1 := blk_frozen HGz2 1
  have hfz2_2 := blk_frozen HGz2 2
  have hfz2_3 := blk_frozen HGz2 3
  clear HGz2 hgz2
  go_enter Try.func14, Try.ntmps14
  go_wp2
  go_ret
  exact ⟨by first | rfl | (simp [errW_none, errW_some] <;> rfl) | (simp [*, errW_none, errW_some] <;> rfl), by repeat (first | (with_reducible first | exact HI0.out | apply IsS54.alloc | apply IsS54.drewN | apply IsS54.drew | apply IsS54.set_1 | apply IsS54.set_2 | apply IsS54.set_3) | exact HI0.out), by repeat (first | (with_reducible first | exact HB.out | apply below_alloc | apply pw_below_drewN | apply below_drew1 | refine below_set ?_ (IsS54.ge HI0.out)) | exact HB.out), by repeat (first | (with_reducible first | exact HK.out | apply KeepBut.set_ | apply keep_drewN | apply keep_drew | apply keep_alloc) | exact HK.out)⟩

end Go.Proofs.Ythlmgamdnclmhaa.R
