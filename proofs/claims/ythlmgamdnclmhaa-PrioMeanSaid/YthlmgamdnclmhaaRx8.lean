-- printed by a program for this claim (see wip/tools)
import Derived.Test.YthlmgamdnclmhaaRx0
import Derived.Test.YthlmgamdnclmhaaRx6
import Derived.Test.YthlmgamdnclmhaaRx7
namespace Go.Proofs.Ythlmgamdnclmhaa.R
open Go.RowKit Go.Proofs.YthlmgamdnclmhaaW.PrintWords Go.Proofs.YthlmgamdnclmhaaW.PrintLast Go.Proofs.YthlmgamdnclmhaaW.PrintMore
attribute [local go_sem] max2_int min2_int max_two min_two max_three min_three max_four min_four   -- for this text's walks alone
set_option linter.unusedVariables false
set_option linter.unusedSimpArgs false

/-! ### prio_Sampler_counts: function 22 -/
def prio_Sampler_counts.l0 : Nat → Int → Int → Int → List (S56) → Int → Int → Int → Int → Int → Int → Int → Int → Option (Int × Int × Int × Int × Int × Int)
  | 0, _, _, _, _, _, _, _, _, _, _, _, _ => none
  | k + 1, x8, x9, x10, x1000, x1001, x1002, x1003, x210000, x210001, x210002, x218000, x218001 => if x10 = 0 then ((prio_wide_over.f k x218000 x218001 x9).bind fun t222 => (if x9 = 0 then (none) else (some (x210002, t222, IntKind.u64.wrap (Int.tdiv x8 x9), x1001, x1002, x1003)))) else (prio_Sampler_counts.l0 k x8 x10 (Int.tmod x9 x10) x1000 x1001 x1002 x1003 x210000 x210001 x210002 x218000 x218001)
def prio_Sampler_counts.f (k : Nat) (s0_0 : List (S56)) (s0_1 : Int) (s0_2 : Int) (s0_3 : Int) (a1_0 : Int) (a1_1 : Int) (a1_2 : Int) (a2_0 : Int) (a2_1 : Int) (a2_2 : Int) : Option (Int × Int × Int × Int × Int × Int) := (prio_Sampler_all.f s0_0 s0_1 s0_2 s0_3 a2_0).bind fun bt212 => ((prio_next.f a1_0 a2_1).bind fun bt218 => ((prio_wide_above.f bt212.1 bt212.2.1 bt218.1 bt218.2).bind fun t220 => (if t220 = true then (if (IntKind.u64.wrap (a2_1 + 1)) = 0 then (some (a1_2, a2_0, 1, bt212.2.2.1, bt212.2.2.2.1, bt212.2.2.2.2)) else ((bits_Rem64.f k bt212.1 bt212.2.1 (IntKind.u64.wrap (a2_1 + 1))).bind fun t221 => (prio_Sampler_counts.l0 k (IntKind.u64.wrap (a2_1 + 1)) (IntKind.u64.wrap (a2_1 + 1)) t221 s0_0 bt212.2.2.1 bt212.2.2.2.1 bt212.2.2.2.2 a1_0 a1_1 a1_2 bt212.1 bt212.2.1))) else (some (a1_2, a1_0, 1, bt212.2.2.1, bt212.2.2.2.1, bt212.2.2.2.2)))))
theorem prio_Sampler_counts.mono_l : ∀ k, (∀ y0 y1 y2 y3 y4 y5 y6 y7 y8 y9 y10 y11, LeO (prio_Sampler_counts.l0 k y0 y1 y2 y3 y4 y5 y6 y7 y8 y9 y10 y11) (prio_Sampler_counts.l0 (k + 1) y0 y1 y2 y3 y4 y5 y6 y7 y8 y9 y10 y11))
  | 0 => fun _ _ _ _ _ _ _ _ _ _ _ _ r h => by simp [prio_Sampler_counts.l0] at h
  | k + 1 => by
    have ih0 := prio_Sampler_counts.mono_l k
    · intro y0 y1 y2 y3 y4 y5 y6 y7 y8 y9 y10 y11
      unfold prio_Sampler_counts.l0
      repeat' first
      | (with_reducible exact ih0 _ _ _ _ _ _ _ _ _ _ _ _)
      | (with_reducible exact bits_Rem64.mono _ _ _ _)
      | (with_reducible exact prio_wide_over.mono _ _ _ _)
      | (with_reducible exact LeO.refl _)
      | (with_reducible exact LeO.none _)
      | (with_reducible refine LeO.ite ?_ ?_)
      | (with_reducible refine LeO.bind ?_ (fun _ => ?_))
      | exact ih0 _ _ _ _ _ _ _ _ _ _ _ _
      | exact bits_Rem64.mono _ _ _ _
      | exact prio_wide_over.mono _ _ _ _
      | exact LeO.none _
      | refine LeO.ite ?_ ?_
      | refine LeO.bind ?_ (fun _ => ?_)
theorem prio_Sampler_counts.mono : ∀ a0 a1 a2 a3 a4 a5 a6 a7 a8 a9 k, LeO (prio_Sampler_counts.f k a0 a1 a2 a3 a4 a5 a6 a7 a8 a9) (prio_Sampler_counts.f (k + 1) a0 a1 a2 a3 a4 a5 a6 a7 a8 a9) := by
  intro a0 a1 a2 a3 a4 a5 a6 a7 a8 a9 k
  have ih0 := prio_Sampler_counts.mono_l k
  unfold prio_Sampler_counts.f
  repeat' first
      | (with_reducible exact ih0 _ _ _ _ _ _ _ _ _ _ _ _)
      | (with_reducible exact bits_Rem64.mono _ _ _ _)
      | (with_reducible exact prio_wide_over.mono _ _ _ _)
      | (with_reducible exact LeO.refl _)
      | (with_reducible exact LeO.none _)
      | (with_reducible refine LeO.ite ?_ ?_)
      | (with_reducible refine LeO.bind ?_ (fun _ => ?_))
      | exact ih0 _ _ _ _ _ _ _ _ _ _ _ _
      | exact bits_Rem64.mono _ _ _ _
      | exact prio_wide_over.mono _ _ _ _
      | exact LeO.none _
      | refine LeO.ite ?_ ?_
      | refine LeO.bind ?_ (fun _ => ?_)
def prio_Sampler_counts.T2 : Bool × List (List Nat × List Nat) := (true, [([], []), ([], []), ([1], [1]), ([], []), ([3], [3]), ([2, 4], [2, 4]), ([0, 5, 5], [0, 5]), ([6], [6])])
def prio_Sampler_counts.B2 : List Nat := [0, 0, 2, 0, 8, 30, 63, 127]
theorem prio_Sampler_counts.tab2 : rtab .any (opsOf Try.f22 2) = prio_Sampler_counts.T2 := by kernel_rfl
theorem prio_Sampler_counts.bits2 : waitsOk prio_Sampler_counts.T2.2 prio_Sampler_counts.B2 = true := by kernel_rfl
def prio_Sampler_counts.T10 : Bool × List (List Nat × List Nat) := (true, [([], []), ([0], [0]), ([], []), ([], []), ([2, 3], [2, 3]), ([], []), ([], []), ([5, 6], [5, 6]), ([1, 4, 7], [1, 4, 7]), ([8, 4, 0, 1, 2, 3, 4, 5, 6, 7, 8], [8])])
def prio_Sampler_counts.B10 : List Nat := [0, 1, 0, 0, 12, 0, 0, 96, 255, 511]
theorem prio_Sampler_counts.tab10 : rtab .any (opsOf Try.f22 10) = prio_Sampler_counts.T10 := by kernel_rfl
theorem prio_Sampler_counts.bits10 : waitsOk prio_Sampler_counts.T10.2 prio_Sampler_counts.B10 = true := by kernel_rfl
set_option maxHeartbeats 8000000 in
set_option maxRecDepth 100000 in
theorem prio_Sampler_counts.calls (k : Nat) (g : Nat) (s0_0 : List (S56)) (s0_1 : Int) (s0_2 : Int) (s0_3 : Int) (a1_0 : Int) (a1_1 : Int) (a1_2 : Int) (a2_0 : Int) (a2_1 : Int) (a2_2 : Int) (r1 : Int) (r2 : Int) (r3 : Int) (r4 : Int) (r5 : Int) (r6 : Int) (w0 w : World) (hI : IsS54 w0 w g s0_0 s0_1 s0_2 s0_3) (hB : Below w0.heap.size w0 w) (h : prio_Sampler_counts.f k s0_0 s0_1 s0_2 s0_3 a1_0 a1_1 a1_2 a2_0 a2_1 a2_2 = some (r1, r2, r3, r4, r5, r6)) :
    Calls Try.prog 22 #[.pointer (some ⟨g, 0, none⟩), .agg #[.int .u64 a1_0, .int .u64 a1_1, .int .i64 a1_2], .agg #[.int .u64 a2_0, .int .u64 a2_1, .int .i64 a2_2]] w fun e w' => e = .returned (.agg #[.int .i64 r1, .int .u64 r2, .int .u64 r3]) ∧ IsS54 w0 w' g s0_0 r4 r5 r6 ∧ Below w0.heap.size w0 w' ∧ KeepBut w w' g none := by
  have hu56 := Try.underlying56
  have hu33 := Try.underlying33
  have hu75 := Try.underlying75
  have HI0 := Aside0.mk hI
  have HK := Aside0.mk (KeepBut.refl w g none)
  have HL := Aside0.mk hB.size
  clear hI
  have HW0 := Aside0.mk hB.size
  have HB := Aside0.mk hB
  clear hB
  have H : ((prio_Sampler_all.f s0_0 s0_1 s0_2 s0_3 a2_0).bind fun bt212 => ((prio_next.f a1_0 a2_1).bind fun bt218 => ((prio_wide_above.f bt212.1 bt212.2.1 bt218.1 bt218.2).bind fun t220 => (if t220 = true then (if (IntKind.u64.wrap (a2_1 + 1)) = 0 then (some (a1_2, a2_0, 1, bt212.2.2.1, bt212.2.2.2.1, bt212.2.2.2.2)) else ((bits_Rem64.f k bt212.1 bt212.2.1 (IntKind.u64.wrap (a2_1 + 1))).bind fun t221 => (prio_Sampler_counts.l0 k (IntKind.u64.wrap (a2_1 + 1)) (IntKind.u64.wrap (a2_1 + 1)) t221 s0_0 bt212.2.2.1 bt212.2.2.2.1 bt212.2.2.2.2 a1_0 a1_1 a1_2 bt212.1 bt212.2.1))) else (some (a1_2, a1_0, 1, bt212.2.2.1, bt212.2.2.2.1, bt212.2.2.2.2)))))) = some (r1, r2, r3, r4, r5, r6) := h
  clear h
  replace H := Option.bind_eq_some_iff.mp H
  obtain ⟨⟨t212, t213, t214, t215, t216⟩, A40, H⟩ := H
  replace H : ((prio_next.f a1_0 a2_1).bind fun bt218 => ((prio_wide_above.f t212 t213 bt218.1 bt218.2).bind fun t220 => (if t220 = true then (if (IntKind.u64.wrap (a2_1 + 1)) = 0 then (some (a1_2, a2_0, 1, t214, t215, t216)) else ((bits_Rem64.f k t212 t213 (IntKind.u64.wrap (a2_1 + 1))).bind fun t221 => (prio_Sampler_counts.l0 k (IntKind.u64.wrap (a2_1 + 1)) (IntKind.u64.wrap (a2_1 + 1)) t221 s0_0 t214 t215 t216 a1_0 a1_1 a1_2 t212 t213))) else (some (a1_2, a1_0, 1, t214, t215, t216))))) = some (r1, r2, r3, r4, r5, r6) := H
  have A4 := Aside0.mk A40
  clear A40
  replace H := Option.bind_eq_some_iff.mp H
  obtain ⟨⟨t218, t219⟩, A50, H⟩ := H
  replace H : ((prio_wide_above.f t212 t213 t218 t219).bind fun t220 => (if t220 = true then (if (IntKind.u64.wrap (a2_1 + 1)) = 0 then (some (a1_2, a2_0, 1, t214, t215, t216)) else ((bits_Rem64.f k t212 t213 (IntKind.u64.wrap (a2_1 + 1))).bind fun t221 => (prio_Sampler_counts.l0 k (IntKind.u64.wrap (a2_1 + 1)) (IntKind.u64.wrap (a2_1 + 1)) t221 s0_0 t214 t215 t216 a1_0 a1_1 a1_2 t212 t213))) else (some (a1_2, a1_0, 1, t214, t215, t216)))) = some (r1, r2, r3, r4, r5, r6) := H
  have A5 := Aside0.mk A50
  clear A50
  replace H := Option.bind_eq_some_iff.mp H
  obtain ⟨t220, A60, H⟩ := H
  replace H : (if t220 = true then (if (IntKind.u64.wrap (a2_1 + 1)) = 0 then (some (a1_2, a2_0, 1, t214, t215, t216)) else ((bits_Rem64.f k t212 t213 (IntKind.u64.wrap (a2_1 + 1))).bind fun t221 => (prio_Sampler_counts.l0 k (IntKind.u64.wrap (a2_1 + 1)) (IntKind.u64.wrap (a2_1 + 1)) t221 s0_0 t214 t215 t216 a1_0 a1_1 a1_2 t212 t213))) else (some (a1_2, a1_0, 1, t214, t215, t216))) = some (r1, r2, r3, r4, r5, r6) := H
  have A6 := Aside0.mk A60
  clear A60
  by_cases c7 : t220 = true
  · subst c7
    have H1 : (if (IntKind.u64.wrap (a2_1 + 1)) = 0 then (some (a1_2, a2_0, 1, t214, t215, t216)) else ((bits_Rem64.f k t212 t213 (IntKind.u64.wrap (a2_1 + 1))).bind fun t221 => (prio_Sampler_counts.l0 k (IntKind.u64.wrap (a2_1 + 1)) (IntKind.u64.wrap (a2_1 + 1)) t221 s0_0 t214 t215 t216 a1_0 a1_1 a1_2 t212 t213))) = some (r1, r2, r3, r4, r5, r6) := by rw [if_pos rfl] at H; exact H
    clear H
    have H := H1
    clear H1
    by_cases c8 : (IntKind.u64.wrap (a2_1 + 1)) = 0
    · rw [if_pos c8] at H
      have c8b0 : ((IntKind.u64.wrap (a2_1 + 1)) == 0) = true := beq_iff_eq.mpr c8
      have c8b1 : ((IntKind.u64.wrap (a2_1 + 1)) != 0) = false := bne_eq_false_iff_eq.mpr c8
      clear c8
      simp only [Option.some.injEq, Prod.mk.injEq] at H
      obtain ⟨rfl, rfl, rfl, rfl, rfl, rfl⟩ := H
      go_enter Try.func22, Try.ntmps22
      try go_wp2_with (first | ((with_reducible refine gate_dst (N := 4) rfl ?_); refine box_event ?hg (N := 4) ?hd (cs := #[.int .u64 a1_0, .int .u64 a1_1, .int .i64 a1_2]) (t := 56) ?hr ?_; (case hd => rfl); (case hg => rfl); (case hr => first | (go_simp; done) | (go_simp; rfl)); intro gb209 hg w9 hbox hb; have n0_ := Aside0.mk (IsS54.below (by repeat (first | (with_reducible first | exact HI0.out | apply IsS54.alloc | apply IsS54.drewN | apply IsS54.drew | apply IsS54.set_1 | apply IsS54.set_2 | apply IsS54.set_3) | exact HI0.out)) hb); have n1_ := Aside0.mk (KeepBut.trans (by repeat (first | (with_reducible first | exact HK.out | apply KeepBut.set_ | apply keep_drewN | apply keep_drew | apply keep_alloc) | exact HK.out)) (KeepBut.of_below hb g none) (.inl rfl)); have n2_ := Aside0.mk (below_step (by repeat (first | (with_reducible first | exact HB.out | apply below_alloc | apply pw_below_drewN | apply below_drew1 | refine below_set ?_ (IsS54.ge HI0.out)) | exact HB.out)) hb); have n3_ := Aside0.mk (hbox); have n4_ := Aside0.mk ((by rw [hg]; exact (keep_size (w := w) (g := g) (row := none) (by repeat (first | (with_reducible first | exact HK.out | apply KeepBut.set_ | apply keep_drewN | apply keep_drew | apply keep_alloc) | exact HK.out))) : w.heap.size ≤ gb209)); have n5_ := Aside0.mk ((Nat.le_trans HW0.out (by rw [hg]; exact (keep_size (w := w) (g := g) (row := none) (by repeat (first | (with_reducible first | exact HK.out | apply KeepBut.set_ | apply keep_drewN | apply keep_drew | apply keep_alloc) | exact HK.out))) : w.heap.size ≤ gb209) : w0.heap.size ≤ gb209)); have n6_ := Aside0.mk ((by rw [hg]; exact Nat.ne_of_lt (IsS54.lt (show IsS54 w0 _ g s0_0 s0_1 s0_2 s0_3 from by repeat (first | (with_reducible first | exact HI0.out | apply IsS54.alloc | apply IsS54.drewN | apply IsS54.drew | apply IsS54.set_1 | apply IsS54.set_2 | apply IsS54.set_3) | exact HI0.out))) : g ≠ gb209)); have n7_ := Aside0.mk ((by rw [hg]; exact Nat.ne_of_gt (IsS54.lt (show IsS54 w0 _ g s0_0 s0_1 s0_2 s0_3 from by repeat (first | (with_reducible first | exact HI0.out | apply IsS54.alloc | apply IsS54.drewN | apply IsS54.drew | apply IsS54.set_1 | apply IsS54.set_2 | apply IsS54.set_3) | exact HI0.out))) : gb209 ≠ g)); clear HI0; clear HK; clear HB; have HI0 := n0_; have HK := n1_; have HB := n2_; have BK209 := n3_; have GW209 := n4_; have GE209 := n5_; have NB0_209 := n6_; have NB209_0 := n7_; clear n0_ n1_ n2_ n3_ n4_ n5_ n6_ n7_; clear hb hbox hg) | ((with_reducible refine gate_dst (N := 5) rfl ?_); refine box_event ?hg (N := 5) ?hd (cs := #[.int .u64 a2_0, .int .u64 a2_1, .int .i64 a2_2]) (t := 56) ?hr ?_; (case hd => rfl); (case hg => rfl); (case hr => first | (go_simp; done) | (go_simp; rfl)); intro gb210 hg w10 hbox hb; have n0_ := Aside0.mk (IsS54.below (by repeat (first | (with_reducible first | exact HI0.out | apply IsS54.alloc | apply IsS54.drewN | apply IsS54.drew | apply IsS54.set_1 | apply IsS54.set_2 | apply IsS54.set_3 | refine IsS54.far ?_ NB0_209.out _) | exact HI0.out)) hb); have n1_ := Aside0.mk (blk_below (g := gb209) (o := .cells #[.int .u64 a1_0, .int .u64 a1_1, .int .i64 a1_2] 56 (0, 0)) (by (with_reducible repeat (first | refine blk_drewN ?_ _ | refine blk_drew ?_ | refine blk_alloc ?_ _)); exact BK209.out) hb); have n2_ := Aside0.mk (KeepBut.trans (by repeat (first | (with_reducible first | exact HK.out | apply KeepBut.set_ | apply keep_drewN | apply keep_drew | apply keep_alloc | refine keep_far ?_ GW209.out _) | exact HK.out)) (KeepBut.of_below hb g none) (.inl rfl)); have n3_ := Aside0.mk (below_step (by repeat (first | (with_reducible first | exact HB.out | apply below_alloc | apply pw_below_drewN | apply below_drew1 | refine below_set ?_ (IsS54.ge HI0.out) | refine below_set ?_ GE209.out) | exact HB.out)) hb); have n4_ := Aside0.mk (hbox); have n5_ := Aside0.mk ((by rw [hg]; exact (keep_size (w := w) (g := g) (row := none) (by repeat (first | (with_reducible first | exact HK.out | apply KeepBut.set_ | apply keep_drewN | apply keep_drew | apply keep_alloc | refine keep_far ?_ GW209.out _) | exact HK.out))) : w.heap.size ≤ gb210)); have n6_ := Aside0.mk ((Nat.le_trans HW0.out (by rw [hg]; exact (keep_size (w := w) (g := g) (row := none) (by repeat (first | (with_reducible first | exact HK.out | apply KeepBut.set_ | apply keep_drewN | apply keep_drew | apply keep_alloc | refine keep_far ?_ GW209.out _) | exact HK.out))) : w.heap.size ≤ gb210) : w0.heap.size ≤ gb210)); have n7_ := Aside0.mk ((by rw [hg]; exact Nat.ne_of_lt (blk_lt (g := gb209) (o := .cells #[.int .u64 a1_0, .int .u64 a1_1, .int .i64 a1_2] 56 (0, 0)) (by (with_reducible repeat (first | refine blk_drewN ?_ _ | refine blk_drew ?_ | refine blk_alloc ?_ _)); exact BK209.out)) : gb209 ≠ gb210)); have n8_ := Aside0.mk ((by rw [hg]; exact Nat.ne_of_gt (blk_lt (g := gb209) (o := .cells #[.int .u64 a1_0, .int .u64 a1_1, .int .i64 a1_2] 56 (0, 0)) (by (with_reducible repeat (first | refine blk_drewN ?_ _ | refine blk_drew ?_ | refine blk_alloc ?_ _)); exact BK209.out)) : gb210 ≠ gb209)); have n9_ := Aside0.mk ((by rw [hg]; exact Nat.ne_of_lt (IsS54.lt (show IsS54 w0 _ g s0_0 s0_1 s0_2 s0_3 from by repeat (first | (with_reducible first | exact HI0.out | apply IsS54.alloc | apply IsS54.drewN | apply IsS54.drew | apply IsS54.set_1 | apply IsS54.set_2 | apply IsS54.set_3 | refine IsS54.far ?_ NB0_209.out _) | exact HI0.out))) : g ≠ gb210)); have n10_ := Aside0.mk ((by rw [hg]; exact Nat.ne_of_gt (IsS54.lt (show IsS54 w0 _ g s0_0 s0_1 s0_2 s0_3 from by repeat (first | (with_reducible first | exact HI0.out | apply IsS54.alloc | apply IsS54.drewN | apply IsS54.drew | apply IsS54.set_1 | apply IsS54.set_2 | apply IsS54.set_3 | refine IsS54.far ?_ NB0_209.out _) | exact HI0.out))) : gb210 ≠ g)); clear HI0; clear BK209; clear HK; clear HB; have HI0 := n0_; have BK209 := n1_; have HK := n2_; have HB := n3_; have BK210 := n4_; have GW210 := n5_; have GE210 := n6_; have NB209_210 := n7_; have NB210_209 := n8_; have NB0_210 := n9_; have NB210_0 := n10_; clear n0_ n1_ n2_ n3_ n4_ n5_ n6_ n7_ n8_ n9_ n10_; clear hb hbox hg) | ((with_reducible refine gate_dst (N := 6) rfl ?_); refine box_event ?hg (N := 6) ?hd (cs := #[.int .i64 0, .int .u64 0, .int .u64 0]) (t := 33) ?hr ?_; (case hd => rfl); (case hg => rfl); (case hr => first | (go_simp; done) | (go_simp; rfl)); intro gb211 hg w11 hbox hb; have n0_ := Aside0.mk (IsS54.below (by repeat (first | (with_reducible first | exact HI0.out | apply IsS54.alloc | apply IsS54.drewN | apply IsS54.drew | apply IsS54.set_1 | apply IsS54.set_2 | apply IsS54.set_3 | refine IsS54.far ?_ NB0_209.out _ | refine IsS54.far ?_ NB0_210.out _) | exact HI0.out)) hb); have n1_ := Aside0.mk (blk_below (g := gb209) (o := .cells #[.int .u64 a1_0, .int .u64 a1_1, .int .i64 a1_2] 56 (0, 0)) (by (with_reducible repeat (first | refine blk_drewN ?_ _ | refine blk_drew ?_ | refine blk_alloc ?_ _)); exact BK209.out) hb); have n2_ := Aside0.mk (blk_below (g := gb210) (o := .cells #[.int .u64 a2_0, .int .u64 a2_1, .int .i64 a2_2] 56 (0, 0)) (by (with_reducible repeat (first | refine blk_drewN ?_ _ | refine blk_drew ?_ | refine blk_alloc ?_ _)); exact BK210.out) hb); have n3_ := Aside0.mk (KeepBut.trans (by repeat (first | (with_reducible first | exact HK.out | apply KeepBut.set_ | apply keep_drewN | apply keep_drew | apply keep_alloc | refine keep_far ?_ GW209.out _ | refine keep_far ?_ GW210.out _) | exact HK.out)) (KeepBut.of_below hb g none) (.inl rfl)); have n4_ := Aside0.mk (below_step (by repeat (first | (with_reducible first | exact HB.out | apply below_alloc | apply pw_below_drewN | apply below_drew1 | refine below_set ?_ (IsS54.ge HI0.out) | refine below_set ?_ GE209.out | refine below_set ?_ GE210.out) | exact HB.out)) hb); have n5_ := Aside0.mk (hbox); have n6_ := Aside0.mk ((by rw [hg]; exact (keep_size (w := w) (g := g) (row := none) (by repeat (first | (with_reducible first | exact HK.out | apply KeepBut.set_ | apply keep_drewN | apply keep_drew | apply keep_alloc | refine keep_far ?_ GW209.out _ | refine keep_far ?_ GW210.out _) | exact HK.out))) : w.heap.size ≤ gb211)); have n7_ := Aside0.mk ((Nat.le_trans HW0.out (by rw [hg]; exact (keep_size (w := w) (g := g) (row := none) (by repeat (first | (with_reducible first | exact HK.out | apply KeepBut.set_ | apply keep_drewN | apply keep_drew | apply keep_alloc | refine keep_far ?_ GW209.out _ | refine keep_far ?_ GW210.out _) | exact HK.out))) : w.heap.size ≤ gb211) : w0.heap.size ≤ gb211)); have n8_ := Aside0.mk ((by rw [hg]; exact Nat.ne_of_lt (blk_lt (g := gb209) (o := .cells #[.int .u64 a1_0, .int .u64 a1_1, .int .i64 a1_2] 56 (0, 0)) (by (with_reducible repeat (first | refine blk_drewN ?_ _ | refine blk_drew ?_ | refine blk_alloc ?_ _)); exact BK209.out)) : gb209 ≠ gb211)); have n9_ := Aside0.mk ((by rw [hg]; exact Nat.ne_of_gt (blk_lt (g := gb209) (o := .cells #[.int .u64 a1_0, .int .u64 a1_1, .int .i64 a1_2] 56 (0, 0)) (by (with_reducible repeat (first | refine blk_drewN ?_ _ | refine blk_drew ?_ | refine blk_alloc ?_ _)); exact BK209.out)) : gb211 ≠ gb209)); have n10_ := Aside0.mk ((by rw [hg]; exact Nat.ne_of_lt (blk_lt (g := gb210) (o := .cells #[.int .u64 a2_0, .int .u64 a2_1, .int .i64 a2_2] 56 (0, 0)) (by (with_reducible repeat (first | refine blk_drewN ?_ _ | refine blk_drew ?_ | refine blk_alloc ?_ _)); exact BK210.out)) : gb210 ≠ gb211)); have n11_ := Aside0.mk ((by rw [hg]; exact Nat.ne_of_gt (blk_lt (g := gb210) (o := .cells #[.int .u64 a2_0, .int .u64 a2_1, .int .i64 a2_2] 56 (0, 0)) (by (with_reducible repeat (first | refine blk_drewN ?_ _ | refine blk_drew ?_ | refine blk_alloc ?_ _)); exact BK210.out)) : gb211 ≠ gb210)); have n12_ := Aside0.mk ((by rw [hg]; exact Nat.ne_of_lt (IsS54.lt (show IsS54 w0 _ g s0_0 s0_1 s0_2 s0_3 from by repeat (first | (with_reducible first | exact HI0.out | apply IsS54.alloc | apply IsS54.drewN | apply IsS54.drew | apply IsS54.set_1 | apply IsS54.set_2 | apply IsS54.set_3 | refine IsS54.far ?_ NB0_209.out _ | refine IsS54.far ?_ NB0_210.out _) | exact HI0.out))) : g ≠ gb211)); have n13_ := Aside0.mk ((by rw [hg]; exact Nat.ne_of_gt (IsS54.lt (show IsS54 w0 _ g s0_0 s0_1 s0_2 s0_3 from by repeat (first | (with_reducible first | exact HI0.out | apply IsS54.alloc | apply IsS54.drewN | apply IsS54.drew | apply IsS54.set_1 | apply IsS54.set_2 | apply IsS54.set_3 | refine IsS54.far ?_ NB0_209.out _ | refine IsS54.far ?_ NB0_210.out _) | exact HI0.out))) : gb211 ≠ g)); clear HI0; clear BK209; clear BK210; clear HK; clear HB; have HI0 := n0_; have BK209 := n1_; have BK210 := n2_; have HK := n3_; have HB := n4_; have BK211 := n5_; have GW211 := n6_; have GE211 := n7_; have NB209_211 := n8_; have NB211_209 := n9_; have NB210_211 := n10_; have NB211_210 := n11_; have NB0_211 := n12_; have NB211_0 := n13_; clear n0_ n1_ n2_ n3_ n4_ n5_ n6_ n7_ n8_ n9_ n10_ n11_ n12_ n13_; clear hb hbox hg; have hnb12 := NB210_209.out; have hnc12 := NB209_210.out; have hnb13 := NB210_211.out; have hnc13 := NB211_210.out; have hnb14 := NB210_0.out; have hnc14 := NB0_210.out; have hcz15_0 : w11.cell? ⟨gb210, 0, none⟩ = some (.int .u64 a2_0) := (blk_cell BK210.out 0).trans rfl; have hcz15_1 : w11.cell? ⟨gb210, 1, none⟩ = some (.int .u64 a2_1) := (blk_cell BK210.out 1).trans rfl; have hcz15_2 : w11.cell? ⟨gb210, 2, none⟩ = some (.int .i64 a2_2) := (blk_cell BK210.out 2).trans rfl; have hfz15_0 := blk_frozen BK210.out 0; have hfz15_1 := blk_frozen BK210.out 1; have hfz15_2 := blk_frozen BK210.out 2) | ((with_reducible refine gate_callee (f := 34) rfl ?_); refine goesL_ (some 14) rfl rfl Try.func34 (by kernel_rfl) rfl #[.pointer (some ⟨g, 0, none⟩), .int .u64 a2_0] rfl (by (try simp only [List.map_toArray, List.map_cons, List.map_nil]); first | done | rfl | (simp only [List.length_drop, List.length_take]; rfl)) ?_; (with_reducible refine (prio_Sampler_all.calls g s0_0 s0_1 s0_2 s0_3 a2_0 t212 t213 t214 t215 t216 w0 _ ?side1 ?side2 A4.out).mono ?_); (case side1 => repeat (first | (with_reducible first | exact HI0.out | apply IsS54.alloc | apply IsS54.drewN | apply IsS54.drew | apply IsS54.set_1 | apply IsS54.set_2 | apply IsS54.set_3 | refine IsS54.far ?_ NB0_209.out _ | refine IsS54.far ?_ NB0_210.out _ | refine IsS54.far ?_ NB0_211.out _) | exact HI0.out)); (case side2 => repeat (first | (with_reducible first | exact HB.out | apply below_alloc | apply pw_below_drewN | apply below_drew1 | refine below_set ?_ (IsS54.ge HI0.out) | refine below_set ?_ GE209.out | refine below_set ?_ GE210.out | refine below_set ?_ GE211.out) | exact HB.out)); rintro e w16 ⟨rfl, hi, hb, hk⟩; refine ⟨_, rfl, ?_⟩; have n0_ := Aside0.mk (KeepBut.blk hk (g' := gb209) (o := .cells #[.int .u64 a1_0, .int .u64 a1_1, .int .i64 a1_2] 56 (0, 0)) (by (with_reducible repeat (first | refine blk_drewN ?_ _ | refine blk_drew ?_ | refine blk_alloc ?_ _)); exact BK209.out) NB209_0.out (by simp)); have n1_ := Aside0.mk (KeepBut.blk hk (g' := gb210) (o := .cells #[.int .u64 a2_0, .int .u64 a2_1, .int .i64 a2_2] 56 (0, 0)) (by (with_reducible repeat (first | refine blk_drewN ?_ _ | refine blk_drew ?_ | refine blk_alloc ?_ _)); exact BK210.out) NB210_0.out (by simp)); have n2_ := Aside0.mk (KeepBut.blk hk (g' := gb211) (o := .cells #[.int .i64 0, .int .u64 0, .int .u64 0] 33 (0, 0)) (by (with_reducible repeat (first | refine blk_drewN ?_ _ | refine blk_drew ?_ | refine blk_alloc ?_ _)); exact BK211.out) NB211_0.out (by simp)); have n3_ := Aside0.mk (KeepBut.trans (by repeat (first | (with_reducible first | exact HK.out | apply KeepBut.set_ | apply keep_drewN | apply keep_drew | apply keep_alloc | refine keep_far ?_ GW209.out _ | refine keep_far ?_ GW210.out _ | refine keep_far ?_ GW211.out _) | exact HK.out)) hk (.inl rfl)); have n4_ := Aside0.mk (hb); have n5_ := Aside0.mk (hi); clear BK209; clear BK210; clear BK211; clear HK; clear HB; clear HI0; have BK209 := n0_; have BK210 := n1_; have BK211 := n2_; have HK := n3_; have HB := n4_; have HI0 := n5_; clear n0_ n1_ n2_ n3_ n4_ n5_; (try clear hb); (try clear hb2); (try clear hk); (try clear hi)) | ((with_reducible refine gate_dst (N := 7) rfl ?_); refine box_event ?hg (N := 7) ?hd (cs := #[.int .u64 0, .int .u64 0]) (t := 75) ?hr ?_; (case hd => rfl); (case hg => rfl); (case hr => first | (go_simp; done) | (go_simp; rfl)); intro gb217 hg w17 hbox hb; have n0_ := Aside0.mk (IsS54.below (by repeat (first | (with_reducible first | exact HI0.out | apply IsS54.alloc | apply IsS54.drewN | apply IsS54.drew | apply IsS54.set_1 | apply IsS54.set_2 | apply IsS54.set_3 | refine IsS54.far ?_ NB0_209.out _ | refine IsS54.far ?_ NB0_210.out _ | refine IsS54.far ?_ NB0_211.out _) | exact HI0.out)) hb); have n1_ := Aside0.mk (blk_below (g := gb209) (o := .cells #[.int .u64 a1_0, .int .u64 a1_1, .int .i64 a1_2] 56 (0, 0)) (by (with_reducible repeat (first | refine blk_drewN ?_ _ | refine blk_drew ?_ | refine blk_alloc ?_ _)); exact BK209.out) hb); have n2_ := Aside0.mk (blk_below (g := gb210) (o := .cells #[.int .u64 a2_0, .int .u64 a2_1, .int .i64 a2_2] 56 (0, 0)) (by (with_reducible repeat (first | refine blk_drewN ?_ _ | refine blk_drew ?_ | refine blk_alloc ?_ _)); exact BK210.out) hb); have n3_ := Aside0.mk (blk_below (g := gb211) (o := .cells #[.int .i64 0, .int .u64 0, .int .u64 0] 33 (0, 0)) (by (with_reducible repeat (first | refine blk_drewN ?_ _ | refine blk_drew ?_ | refine blk_alloc ?_ _)); exact BK211.out) hb); have n4_ := Aside0.mk (KeepBut.trans (by repeat (first | (with_reducible first | exact HK.out | apply KeepBut.set_ | apply keep_drewN | apply keep_drew | apply keep_alloc | refine keep_far ?_ GW209.out _ | refine keep_far ?_ GW210.out _ | refine keep_far ?_ GW211.out _) | exact HK.out)) (KeepBut.of_below hb g none) (.inl rfl)); have n5_ := Aside0.mk (below_step (by repeat (first | (with_reducible first | exact HB.out | apply below_alloc | apply pw_below_drewN | apply below_drew1 | refine below_set ?_ (IsS54.ge HI0.out) | refine below_set ?_ GE209.out | refine below_set ?_ GE210.out | refine below_set ?_ GE211.out) | exact HB.out)) hb); have n6_ := Aside0.mk (hbox); have n7_ := Aside0.mk ((by rw [hg]; exact (keep_size (w := w) (g := g) (row := none) (by repeat (first | (with_reducible first | exact HK.out | apply KeepBut.set_ | apply keep_drewN | apply keep_drew | apply keep_alloc | refine keep_far ?_ GW209.out _ | refine keep_far ?_ GW210.out _ | refine keep_far ?_ GW211.out _) | exact HK.out))) : w.heap.size ≤ gb217)); have n8_ := Aside0.mk ((Nat.le_trans HW0.out (by rw [hg]; exact (keep_size (w := w) (g := g) (row := none) (by repeat (first | (with_reducible first | exact HK.out | apply KeepBut.set_ | apply keep_drewN | apply keep_drew | apply keep_alloc | refine keep_far ?_ GW209.out _ | refine keep_far ?_ GW210.out _ | refine keep_far ?_ GW211.out _) | exact HK.out))) : w.heap.size ≤ gb217) : w0.heap.size ≤ gb217)); have n9_ := Aside0.mk ((by rw [hg]; exact Nat.ne_of_lt (blk_lt (g := gb209) (o := .cells #[.int .u64 a1_0, .int .u64 a1_1, .int .i64 a1_2] 56 (0, 0)) (by (with_reducible repeat (first | refine blk_drewN ?_ _ | refine blk_drew ?_ | refine blk_alloc ?_ _)); exact BK209.out)) : gb209 ≠ gb217)); have n10_ := Aside0.mk ((by rw [hg]; exact Nat.ne_of_gt (blk_lt (g := gb209) (o := .cells #[.int .u64 a1_0, .int .u64 a1_1, .int .i64 a1_2] 56 (0, 0)) (by (with_reducible repeat (first | refine blk_drewN ?_ _ | refine blk_drew ?_ | refine blk_alloc ?_ _)); exact BK209.out)) : gb217 ≠ gb209)); have n11_ := Aside0.mk ((by rw [hg]; exact Nat.ne_of_lt (blk_lt (g := gb210) (o := .cells #[.int .u64 a2_0, .int .u64 a2_1, .int .i64 a2_2] 56 (0, 0)) (by (with_reducible repeat (first | refine blk_drewN ?_ _ | refine blk_drew ?_ | refine blk_alloc ?_ _)); exact BK210.out)) : gb210 ≠ gb217)); have n12_ := Aside0.mk ((by rw [hg]; exact Nat.ne_of_gt (blk_lt (g := gb210) (o := .cells #[.int .u64 a2_0, .int .u64 a2_1, .int .i64 a2_2] 56 (0, 0)) (by (with_reducible repeat (first | refine blk_drewN ?_ _ | refine blk_drew ?_ | refine blk_alloc ?_ _)); exact BK210.out)) : gb217 ≠ gb210)); have n13_ := Aside0.mk ((by rw [hg]; exact Nat.ne_of_lt (blk_lt (g := gb211) (o := .cells #[.int .i64 0, .int .u64 0, .int .u64 0] 33 (0, 0)) (by (with_reducible repeat (first | refine blk_drewN ?_ _ | refine blk_drew ?_ | refine blk_alloc ?_ _)); exact BK211.out)) : gb211 ≠ gb217)); have n14_ := Aside0.mk ((by rw [hg]; exact Nat.ne_of_gt (blk_lt (g := gb211) (o := .cells #[.int .i64 0, .int .u64 0, .int .u64 0] 33 (0, 0)) (by (with_reducible repeat (first | refine blk_drewN ?_ _ | refine blk_drew ?_ | refine blk_alloc ?_ _)); exact BK211.out)) : gb217 ≠ gb211)); have n15_ := Aside0.mk ((by rw [hg]; exact Nat.ne_of_lt (IsS54.lt (show IsS54 w0 _ g s0_0 t214 t215 t216 from by repeat (first | (with_reducible first | exact HI0.out | apply IsS54.alloc | apply IsS54.drewN | apply IsS54.drew | apply IsS54.set_1 | apply IsS54.set_2 | apply IsS54.set_3 | refine IsS54.far ?_ NB0_209.out _ | refine IsS54.far ?_ NB0_210.out _ | refine IsS54.far ?_ NB0_211.out _) | exact HI0.out))) : g ≠ gb217)); have n16_ := Aside0.mk ((by rw [hg]; exact Nat.ne_of_gt (IsS54.lt (show IsS54 w0 _ g s0_0 t214 t215 t216 from by repeat (first | (with_reducible first | exact HI0.out | apply IsS54.alloc | apply IsS54.drewN | apply IsS54.drew | apply IsS54.set_1 | apply IsS54.set_2 | apply IsS54.set_3 | refine IsS54.far ?_ NB0_209.out _ | refine IsS54.far ?_ NB0_210.out _ | refine IsS54.far ?_ NB0_211.out _) | exact HI0.out))) : gb217 ≠ g)); clear HI0; clear BK209; clear BK210; clear BK211; clear HK; clear HB; have HI0 := n0_; have BK209 := n1_; have BK210 := n2_; have BK211 := n3_; have HK := n4_; have HB := n5_; have BK217 := n6_; have GW217 := n7_; have GE217 := n8_; have NB209_217 := n9_; have NB217_209 := n10_; have NB210_217 := n11_; have NB217_210 := n12_; have NB211_217 := n13_; have NB217_211 := n14_; have NB0_217 := n15_; have NB217_0 := n16_; clear n0_ n1_ n2_ n3_ n4_ n5_ n6_ n7_ n8_ n9_ n10_ n11_ n12_ n13_ n14_ n15_ n16_; clear hb hbox hg; have hnb18 := NB217_209.out; have hnc18 := NB209_217.out; have hnb19 := NB217_210.out; have hnc19 := NB210_217.out; have hnb20 := NB217_211.out; have hnc20 := NB211_217.out; have hnb21 := NB217_0.out; have hnc21 := NB0_217.out; have hcz22_0 : w17.cell? ⟨gb217, 0, none⟩ = some (.int .u64 0) := (blk_cell BK217.out 0).trans rfl; have hcz22_1 : w17.cell? ⟨gb217, 1, none⟩ = some (.int .u64 0) := (blk_cell BK217.out 1).trans rfl; have hfz22_0 := blk_frozen BK217.out 0; have hfz22_1 := blk_frozen BK217.out 1))
      have n0_ : Aside0 (((w17.setCell ⟨gb217, 0, none⟩ (.int .u64 t212)).setCell ⟨gb217, 1, none⟩ (.int .u64 t213)).heap[gb209]? = some (.cells #[.int .u64 a1_0, .int .u64 a1_1, .int .i64 a1_2] 56 (0, 0))) := ⟨by (with_reducible repeat (first | refine blk_drewN ?_ _ | refine blk_drew ?_ | refine blk_alloc ?_ _)); refine blk_far ?_ NB209_217.out _; (with_reducible repeat (first | refine blk_drewN ?_ _ | refine blk_drew ?_ | refine blk_alloc ?_ _)); refine blk_far ?_ NB209_217.out _; (with_reducible repeat (first | refine blk_drewN ?_ _ | refine blk_drew ?_ | refine blk_alloc ?_ _)); exact BK209.out⟩
      have n1_ : Aside0 (((w17.setCell ⟨gb217, 0, none⟩ (.int .u64 t212)).setCell ⟨gb217, 1, none⟩ (.int .u64 t213)).heap[gb210]? = some (.cells #[.int .u64 a2_0, .int .u64 a2_1, .int .i64 a2_2] 56 (0, 0))) := ⟨by (with_reducible repeat (first | refine blk_drewN ?_ _ | refine blk_drew ?_ | refine blk_alloc ?_ _)); refine blk_far ?_ NB210_217.out _; (with_reducible repeat (first | refine blk_drewN ?_ _ | refine blk_drew ?_ | refine blk_alloc ?_ _)); refine blk_far ?_ NB210_217.out _; (with_reducible repeat (first | refine blk_drewN ?_ _ | refine blk_drew ?_ | refine blk_alloc ?_ _)); exact BK210.out⟩
      have n2_ : Aside0 (((w17.setCell ⟨gb217, 0, none⟩ (.int .u64 t212)).setCell ⟨gb217, 1, none⟩ (.int .u64 t213)).heap[gb211]? = some (.cells #[.int .i64 0, .int .u64 0, .int .u64 0] 33 (0, 0))) := ⟨by (with_reducible repeat (first | refine blk_drewN ?_ _ | refine blk_drew ?_ | refine blk_alloc ?_ _)); refine blk_far ?_ NB211_217.out _; (with_reducible repeat (first | refine blk_drewN ?_ _ | refine blk_drew ?_ | refine blk_alloc ?_ _)); refine blk_far ?_ NB211_217.out _; (with_reducible repeat (first | refine blk_drewN ?_ _ | refine blk_drew ?_ | refine blk_alloc ?_ _)); exact BK211.out⟩
      have n3_ : Aside0 (((w17.setCell ⟨gb217, 0, none⟩ (.int .u64 t212)).setCell ⟨gb217, 1, none⟩ (.int .u64 t213)).heap[gb217]? = some (.cells #[.int .u64 t212, .int .u64 t213] 75 (0, 0))) := ⟨by (with_reducible repeat (first | refine blk_drewN ?_ _ | refine blk_drew ?_ | refine blk_alloc ?_ _)); refine blk_put (cs := #[.int .u64 t212, .int .u64 0]) ?_ 1 _ rfl; (with_reducible repeat (first | refine blk_drewN ?_ _ | refine blk_drew ?_ | refine blk_alloc ?_ _)); refine blk_put (cs := #[.int .u64 0, .int .u64 0]) ?_ 0 _ rfl; (with_reducible repeat (first | refine blk_drewN ?_ _ | refine blk_drew ?_ | refine blk_alloc ?_ _)); exact BK217.out⟩
      have n4_ : Aside0 (IsS54 w0 ((w17.setCell ⟨gb217, 0, none⟩ (.int .u64 t212)).setCell ⟨gb217, 1, none⟩ (.int .u64 t213)) g s0_0 t214 t215 t216) := ⟨by repeat (first | (with_reducible first | exact HI0.out | apply IsS54.alloc | apply IsS54.drewN | apply IsS54.drew | apply IsS54.set_1 | apply IsS54.set_2 | apply IsS54.set_3 | refine IsS54.far ?_ NB0_209.out _ | refine IsS54.far ?_ NB0_210.out _ | refine IsS54.far ?_ NB0_211.out _ | refine IsS54.far ?_ NB0_217.out _) | exact HI0.out)⟩
      have n5_ : Aside0 (KeepBut w ((w17.setCell ⟨gb217, 0, none⟩ (.int .u64 t212)).setCell ⟨gb217, 1, none⟩ (.int .u64 t213)) g none) := ⟨by repeat (first | (with_reducible first | exact HK.out | apply KeepBut.set_ | apply keep_drewN | apply keep_drew | apply keep_alloc | refine keep_far ?_ GW209.out _ | refine keep_far ?_ GW210.out _ | refine keep_far ?_ GW211.out _ | refine keep_far ?_ GW217.out _) | exact HK.out)⟩
      have n6_ : Aside0 (Below w0.heap.size w0 ((w17.setCell ⟨gb217, 0, none⟩ (.int .u64 t212)).setCell ⟨gb217, 1, none⟩ (.int .u64 t213))) := ⟨by repeat (first | (with_reducible first | exact HB.out | apply below_alloc | apply pw_below_drewN | apply below_drew1 | refine below_set ?_ (IsS54.ge HI0.out) | refine below_set ?_ GE209.out | refine below_set ?_ GE210.out | refine below_set ?_ GE211.out | refine below_set ?_ GE217.out) | exact HB.out)⟩
      (try clear BK209)
      (try clear BK210)
      (try clear BK211)
      (try clear BK217)
      (try clear HI0)
      (try clear HK)
      (try clear HB)
      generalize ((w17.setCell ⟨gb217, 0, none⟩ (.int .u64 t212)).setCell ⟨gb217, 1, none⟩ (.int .u64 t213)) = w23 at n0_ n1_ n2_ n3_ n4_ n5_ n6_ ⊢
      have BK209 := n0_
      have BK210 := n1_
      have BK211 := n2_
      have BK217 := n3_
      have HI0 := n4_
      have HK := n5_
      have HB := n6_
      clear n0_ n1_ n2_ n3_ n4_ n5_ n6_
      have n0_ := Aside0.mk (blk_drew BK209.out)
      have n1_ := Aside0.mk (blk_drew BK210.out)
      have n2_ := Aside0.mk (blk_drew BK211.out)
      have n3_ := Aside0.mk (blk_drew BK217.out)
      have n4_ := Aside0.mk (IsS54.drew HI0.out)
      have n5_ := Aside0.mk (keep_drew HK.out)
      have n6_ := Aside0.mk (below_drew1 HB.out)
      clear BK209
      clear BK210
      clear BK211
      clear BK217
      clear HI0
      clear HK
      clear HB
      have BK209 := n0_
      have BK210 := n1_
      have BK211 := n2_
      have BK217 := n3_
      have HI0 := n4_
      have HK := n5_
      have HB := n6_
      clear n0_ n1_ n2_ n3_ n4_ n5_ n6_
      refine start_ (n := 8) (S := fun w' => w'.cell? ⟨gb217, 0, none⟩ = some (.int .u64 t212) ∧ w'.cell? ⟨gb217, 1, none⟩ = some (.int .u64 t213) ∧ w'.cell? ⟨gb209, 0, none⟩ = some (.int .u64 a1_0) ∧ w'.cell? ⟨gb209, 1, none⟩ = some (.int .u64 a1_1) ∧ w'.cell? ⟨gb209, 2, none⟩ = some (.int .i64 a1_2) ∧ w'.cell? ⟨gb210, 0, none⟩ = some (.int .u64 a2_0) ∧ w'.cell? ⟨gb210, 1, none⟩ = some (.int .u64 a2_1) ∧ w'.cell? ⟨gb210, 2, none⟩ = some (.int .i64 a2_2)) (ds := []) #[false, false, false, false, false, false, false, false] (by kernel_rfl) rfl rfl ⟨(blk_cell BK217.out 0).trans rfl, (blk_cell BK217.out 1).trans rfl, (blk_cell BK209.out 0).trans rfl, (blk_cell BK209.out 1).trans rfl, (blk_cell BK209.out 2).trans rfl, (blk_cell BK210.out 0).trans rfl, (blk_cell BK210.out 1).trans rfl, (blk_cell BK210.out 2).trans rfl⟩ (fun hHeld => ?_); refine with_tabW prio_Sampler_counts.tab2 prio_Sampler_counts.bits2 (fun HT_ HW_ => ?_)
      generalize w23.drew = w24 at BK209 BK210 BK211 BK217 HI0 HK HB hHeld ⊢
      refine pure_ (i := 1) (N := some 16) (v := ?_) (a' := ?_) #[false, true, false, false, false, false, false, false] rfl rfl (any_of HT_.out (by kernel_rfl)) (fun _ _ _ h => h) (Or.inl ⟨by rfl, ?_⟩) ?_ ?_
      rotate_left
      · intro w'
        go_simp
        with_reducible rfl
      rotate_left
      · simp only [Act.put, List.setIfInBounds_toArray, List.set_cons_zero, List.set_cons_succ, i64_w, i32_w]
        rfl
      refine pure_ (i := 3) (N := some 18) (v := ?_) (a' := ?_) #[false, true, false, true, false, false, false, false] rfl rfl (any_of HT_.out (by kernel_rfl)) (fun _ _ _ h => h) (Or.inl ⟨by rfl, ?_⟩) ?_ ?_
      rotate_left
      · intro w'
        go_simp
        with_reducible rfl
      rotate_left
      · simp only [Act.put, List.setIfInBounds_toArray, List.set_cons_zero, List.set_cons_succ, i64_w, i32_w]
        rfl
      refine take_ (i := 0) (N := some 15) (v := ?_) (a' := ?_) #[true, true, false, true, false, false, false, false] rfl rfl (take_ofW HT_.out HW_.out (by kernel_rfl)) (fun _ _ _ h => h) (Or.inl ⟨by rfl, ?_⟩) hHeld ?_ ?_
      rotate_left
      · rintro w' ⟨s0, s1, s2, s3, s4, s5, s6, s7⟩
        go_simp
        with_reducible rfl
      rotate_left
      · simp only [Act.put, List.setIfInBounds_toArray, List.set_cons_zero, List.set_cons_succ, i64_w, i32_w]
        rfl
      refine take_ (i := 2) (N := some 17) (v := ?_) (a' := ?_) #[true, true, true, true, false, false, false, false] rfl rfl (take_ofW HT_.out HW_.out (by kernel_rfl)) (fun _ _ _ h => h) (Or.inl ⟨by rfl, ?_⟩) hHeld ?_ ?_
      rotate_left
      · rintro w' ⟨s0, s1, s2, s3, s4, s5, s6, s7⟩
        go_simp
        with_reducible rfl
      rotate_left
      · simp only [Act.put, List.setIfInBounds_toArray, List.set_cons_zero, List.set_cons_succ, i64_w, i32_w]
        rfl
      refine take_ (i := 4) (N := some 19) (v := ?_) (a' := ?_) #[true, true, true, true, true, false, false, false] rfl rfl (take_ofW HT_.out HW_.out (by kernel_rfl)) (fun _ _ _ h => h) (Or.inl ⟨by rfl, ?_⟩) hHeld ?_ ?_
      rotate_left
      · rintro w' ⟨s0, s1, s2, s3, s4, s5, s6, s7⟩
        go_simp
        with_reducible rfl
      rotate_left
      · simp only [Act.put, List.setIfInBounds_toArray, List.set_cons_zero, List.set_cons_succ, i64_w, i32_w]
        rfl
      refine one_ (i := 5) (N := some 20) #[true, true, true, true, true, true, false, false] rfl rfl (one_of HT_.out (by kernel_rfl)) (by decide) (fun K hK => ?_)
      refine goes_ Try.func29 (by kernel_rfl) rfl #[.int .u64 a1_0, .int .u64 a2_1] (by rfl) rfl rfl (by (try simp only [List.map_toArray, List.map_cons, List.map_nil]); first | done | rfl | (simp only [List.length_drop, List.length_take]; rfl)) ?_
      with_reducible refine (prio_next.calls a1_0 a2_1 t218 t219 _ A5.out).mono ?_
      rintro e w25 ⟨rfl, hb⟩
      refine ⟨_, rfl, ?_⟩
      have n0_ := Aside0.mk (IsS54.below (by repeat (first | (with_reducible first | exact HI0.out | apply IsS54.alloc | apply IsS54.drewN | apply IsS54.drew | apply IsS54.set_1 | apply IsS54.set_2 | apply IsS54.set_3 | refine IsS54.far ?_ NB0_209.out _ | refine IsS54.far ?_ NB0_210.out _ | refine IsS54.far ?_ NB0_211.out _ | refine IsS54.far ?_ NB0_217.out _) | exact HI0.out)) hb)
      have n1_ := Aside0.mk (blk_below (g := gb209) (o := .cells #[.int .u64 a1_0, .int .u64 a1_1, .int .i64 a1_2] 56 (0, 0)) (by (with_reducible repeat (first | refine blk_drewN ?_ _ | refine blk_drew ?_ | refine blk_alloc ?_ _)); exact BK209.out) hb)
      have n2_ := Aside0.mk (blk_below (g := gb210) (o := .cells #[.int .u64 a2_0, .int .u64 a2_1, .int .i64 a2_2] 56 (0, 0)) (by (with_reducible repeat (first | refine blk_drewN ?_ _ | refine blk_drew ?_ | refine blk_alloc ?_ _)); exact BK210.out) hb)
      have n3_ := Aside0.mk (blk_below (g := gb211) (o := .cells #[.int .i64 0, .int .u64 0, .int .u64 0] 33 (0, 0)) (by (with_reducible repeat (first | refine blk_drewN ?_ _ | refine blk_drew ?_ | refine blk_alloc ?_ _)); exact BK211.out) hb)
      have n4_ := Aside0.mk (blk_below (g := gb217) (o := .cells #[.int .u64 t212, .int .u64 t213] 75 (0, 0)) (by (with_reducible repeat (first | refine blk_drewN ?_ _ | refine blk_drew ?_ | refine blk_alloc ?_ _)); exact BK217.out) hb)
      have n5_ := Aside0.mk (KeepBut.trans (by repeat (first | (with_reducible first | exact HK.out | apply KeepBut.set_ | apply keep_drewN | apply keep_drew | apply keep_alloc | refine keep_far ?_ GW209.out _ | refine keep_far ?_ GW210.out _ | refine keep_far ?_ GW211.out _ | refine keep_far ?_ GW217.out _) | exact HK.out)) (KeepBut.of_below hb g none) (.inl rfl))
      have n6_ := Aside0.mk (below_step (by repeat (first | (with_reducible first | exact HB.out | apply below_alloc | apply pw_below_drewN | apply below_drew1 | refine below_set ?_ (IsS54.ge HI0.out) | refine below_set ?_ GE209.out | refine below_set ?_ GE210.out | refine below_set ?_ GE211.out | refine below_set ?_ GE217.out) | exact HB.out)) hb)
      clear HI0
      clear BK209
      clear BK210
      clear BK211
      clear BK217
      clear HK
      clear HB
      have HI0 := n0_
      have BK209 := n1_
      have BK210 := n2_
      have BK211 := n3_
      have BK217 := n4_
      have HK := n5_
      have HB := n6_
      clear n0_ n1_ n2_ n3_ n4_ n5_ n6_
      (try clear hb)
      (try clear hb2)
      (try clear hk)
      (try clear hi)
      refine hK.out _ _ ⟨(blk_cell BK217.out 0).trans rfl, (blk_cell BK217.out 1).trans rfl, (blk_cell BK209.out 0).trans rfl, (blk_cell BK209.out 1).trans rfl, (blk_cell BK209.out 2).trans rfl, (blk_cell BK210.out 0).trans rfl, (blk_cell BK210.out 1).trans rfl, (blk_cell BK210.out 2).trans rfl⟩ (fun hHeld => ?_)
      clear hK K
      refine norm_ (a' := ?_) ?_ ?_
      rotate_left
      · show Act.put _ (some 20) _ = _
        simp only [Act.put, List.setIfInBounds_toArray, List.set_cons_zero, List.set_cons_succ, i64_w, i32_w]
        rfl
      refine one_ (i := 6) (N := some 21) #[true, true, true, true, true, true, true, false] rfl rfl (one_of HT_.out (by kernel_rfl)) (by decide) (fun K hK => ?_)
      refine goes_ Try.func30 (by kernel_rfl) rfl #[.agg #[.int .u64 t212, .int .u64 t213], .agg #[.int .u64 t218, .int .u64 t219]] (by rfl) rfl rfl (by (try simp only [List.map_toArray, List.map_cons, List.map_nil]); first | done | rfl | (simp only [List.length_drop, List.length_take]; rfl)) ?_
      with_reducible refine (prio_wide_above.calls t212 t213 t218 t219 true _ A6.out).mono ?_
      rintro e w26 ⟨rfl, hb⟩
      refine ⟨_, rfl, ?_⟩
      have n0_ := Aside0.mk (IsS54.below (by repeat (first | (with_reducible first | exact HI0.out | apply IsS54.alloc | apply IsS54.drewN | apply IsS54.drew | apply IsS54.set_1 | apply IsS54.set_2 | apply IsS54.set_3 | refine IsS54.far ?_ NB0_209.out _ | refine IsS54.far ?_ NB0_210.out _ | refine IsS54.far ?_ NB0_211.out _ | refine IsS54.far ?_ NB0_217.out _) | exact HI0.out)) hb)
      have n1_ := Aside0.mk (blk_below (g := gb209) (o := .cells #[.int .u64 a1_0, .int .u64 a1_1, .int .i64 a1_2] 56 (0, 0)) (by (with_reducible repeat (first | refine blk_drewN ?_ _ | refine blk_drew ?_ | refine blk_alloc ?_ _)); exact BK209.out) hb)
      have n2_ := Aside0.mk (blk_below (g := gb210) (o := .cells #[.int .u64 a2_0, .int .u64 a2_1, .int .i64 a2_2] 56 (0, 0)) (by (with_reducible repeat (first | refine blk_drewN ?_ _ | refine blk_drew ?_ | refine blk_alloc ?_ _)); exact BK210.out) hb)
      have n3_ := Aside0.mk (blk_below (g := gb211) (o := .cells #[.int .i64 0, .int .u64 0, .int .u64 0] 33 (0, 0)) (by (with_reducible repeat (first | refine blk_drewN ?_ _ | refine blk_drew ?_ | refine blk_alloc ?_ _)); exact BK211.out) hb)
      have n4_ := Aside0.mk (blk_below (g := gb217) (o := .cells #[.int .u64 t212, .int .u64 t213] 75 (0, 0)) (by (with_reducible repeat (first | refine blk_drewN ?_ _ | refine blk_drew ?_ | refine blk_alloc ?_ _)); exact BK217.out) hb)
      have n5_ := Aside0.mk (KeepBut.trans (by repeat (first | (with_reducible first | exact HK.out | apply KeepBut.set_ | apply keep_drewN | apply keep_drew | apply keep_alloc | refine keep_far ?_ GW209.out _ | refine keep_far ?_ GW210.out _ | refine keep_far ?_ GW211.out _ | refine keep_far ?_ GW217.out _) | exact HK.out)) (KeepBut.of_below hb g none) (.inl rfl))
      have n6_ := Aside0.mk (below_step (by repeat (first | (with_reducible first | exact HB.out | apply below_alloc | apply pw_below_drewN | apply below_drew1 | refine below_set ?_ (IsS54.ge HI0.out) | refine below_set ?_ GE209.out | refine below_set ?_ GE210.out | refine below_set ?_ GE211.out | refine below_set ?_ GE217.out) | exact HB.out)) hb)
      clear HI0
      clear BK209
      clear BK210
      clear BK211
      clear BK217
      clear HK
      clear HB
      have HI0 := n0_
      have BK209 := n1_
      have BK210 := n2_
      have BK211 := n3_
      have BK217 := n4_
      have HK := n5_
      have HB := n6_
      clear n0_ n1_ n2_ n3_ n4_ n5_ n6_
      (try clear hb)
      (try clear hb2)
      (try clear hk)
      (try clear hi)
      refine hK.out _ _ ⟨(blk_cell BK217.out 0).trans rfl, (blk_cell BK217.out 1).trans rfl, (blk_cell BK209.out 0).trans rfl, (blk_cell BK209.out 1).trans rfl, (blk_cell BK209.out 2).trans rfl, (blk_cell BK210.out 0).trans rfl, (blk_cell BK210.out 1).trans rfl, (blk_cell BK210.out 2).trans rfl⟩ (fun hHeld => ?_)
      clear hK K
      refine norm_ (a' := ?_) ?_ ?_
      rotate_left
      · show Act.put _ (some 21) _ = _
        simp only [Act.put, List.setIfInBounds_toArray, List.set_cons_zero, List.set_cons_succ, i64_w, i32_w]
        rfl
      refine pure_ (i := 7) (N := some 22) (v := ?_) (a' := ?_) #[true, true, true, true, true, true, true, true] rfl rfl (any_of HT_.out (by kernel_rfl)) (fun _ _ _ h => h) (Or.inl ⟨by rfl, ?_⟩) ?_ ?_
      rotate_left
      · intro w'
        go_simp
        with_reducible rfl
      rotate_left
      · simp only [Act.put, List.setIfInBounds_toArray, List.set_cons_zero, List.set_cons_succ, i64_w, i32_w]
        rfl
      refine done_ (done_of HT_.out (by kernel_rfl)) ?_
      have hcz27_0 : w26.cell? ⟨gb210, 0, none⟩ = some (.int .u64 a2_0) := (blk_cell BK210.out 0).trans rfl
      have hcz27_1 : w26.cell? ⟨gb210, 1, none⟩ = some (.int .u64 a2_1) := (blk_cell BK210.out 1).trans rfl
      have hcz27_2 : w26.cell? ⟨gb210, 2, none⟩ = some (.int .i64 a2_2) := (blk_cell BK210.out 2).trans rfl
      have hfz27_0 := blk_frozen BK210.out 0
      have hfz27_1 := blk_frozen BK210.out 1
      have hfz27_2 := blk_frozen BK210.out 2
      have hnb28 := NB209_211.out
      have hnc28 := NB211_209.out
      have hnb29 := NB209_0.out
      have hnc29 := NB0_209.out
      have hcz30_0 : w26.cell? ⟨gb209, 0, none⟩ = some (.int .u64 a1_0) := (blk_cell BK209.out 0).trans rfl
      have hcz30_1 : w26.cell? ⟨gb209, 1, none⟩ = some (.int .u64 a1_1) := (blk_cell BK209.out 1).trans rfl
      have hcz30_2 : w26.cell? ⟨gb209, 2, none⟩ = some (.int .i64 a1_2) := (blk_cell BK209.out 2).trans rfl
      have hfz30_0 := blk_frozen BK209.out 0
      have hfz30_1 := blk_frozen BK209.out 1
      have hfz30_2 := blk_frozen BK209.out 2
      have hnb31 := NB211_0.out
      have hnc31 := NB0_211.out
      have hcz32_0 : w26.cell? ⟨gb211, 0, none⟩ = some (.int .i64 0) := (blk_cell BK211.out 0).trans rfl
      have hcz32_1 : w26.cell? ⟨gb211, 1, none⟩ = some (.int .u64 0) := (blk_cell BK211.out 1).trans rfl
      have hcz32_2 : w26.cell? ⟨gb211, 2, none⟩ = some (.int .u64 0) := (blk_cell BK211.out 2).trans rfl
      have hfz32_0 := blk_frozen BK211.out 0
      have hfz32_1 := blk_frozen BK211.out 1
      have hfz32_2 := blk_frozen BK211.out 2
      try go_wp2
      refine bodyPost_ret (results_cell_row rfl _ _ gb211 33 #[.int .i64 a1_2, .int .u64 a2_0, .int .u64 1] (0, 0) _ rfl (by (with_reducible repeat (first | refine blk_drewN ?_ _ | refine blk_drew ?_ | refine blk_alloc ?_ _)); refine blk_put (cs := #[.int .i64 a1_2, .int .u64 a2_0, .int .u64 0]) ?_ 2 _ rfl; (with_reducible repeat (first | refine blk_drewN ?_ _ | refine blk_drew ?_ | refine blk_alloc ?_ _)); refine blk_put (cs := #[.int .i64 a1_2, .int .u64 0, .int .u64 0]) ?_ 1 _ rfl; (with_reducible repeat (first | refine blk_drewN ?_ _ | refine blk_drew ?_ | refine blk_alloc ?_ _)); refine blk_put (cs := #[.int .i64 0, .int .u64 0, .int .u64 0]) ?_ 0 _ rfl; (with_reducible repeat (first | refine blk_drewN ?_ _ | refine blk_drew ?_ | refine blk_alloc ?_ _)); exact BK211.out) Try.underlying33 rfl (by kernel_rfl)) rfl ?_
      exact ⟨by first | rfl | (simp [errW_none, errW_some] <;> rfl) | (simp [*, errW_none, errW_some] <;> rfl), by repeat (first | (with_reducible first | exact HI0.out | apply IsS54.alloc | apply IsS54.drewN | apply IsS54.drew | apply IsS54.set_1 | apply IsS54.set_2 | apply IsS54.set_3 | refine IsS54.far ?_ NB0_209.out _ | refine IsS54.far ?_ NB0_210.out _ | refine IsS54.far ?_ NB0_211.out _ | refine IsS54.far ?_ NB0_217.out _) | exact HI0.out), by repeat (first | (with_reducible first | exact HB.out | apply below_alloc | apply pw_below_drewN | apply below_drew1 | refine below_set ?_ (IsS54.ge HI0.out) | refine below_set ?_ GE209.out | refine below_set ?_ GE210.out | refine below_set ?_ GE211.out | refine below_set ?_ GE217.out) | exact HB.out), by repeat (first | (with_reducible first | exact HK.out | apply KeepBut.set_ | apply keep_drewN | apply keep_drew | apply keep_alloc | refine keep_far ?_ GW209.out _ | refine keep_far ?_ GW210.out _ | refine keep_far ?_ GW211.out _ | refine keep_far ?_ GW217.out _) | exact HK.out)⟩
    · rw [if_neg c8] at H
      have c8b0 : ((IntKind.u64.wrap (a2_1 + 1)) == 0) = false := beq_eq_false_iff_ne.mpr c8
      have c8b1 : ((IntKind.u64.wrap (a2_1 + 1)) != 0) = true := bne_iff_ne.mpr c8
      replace H := Option.bind_eq_some_iff.mp H
      obtain ⟨t221, A330, H⟩ := H
      replace H : (prio_Sampler_counts.l0 k (IntKind.u64.wrap (a2_1 + 1)) (IntKind.u64.wrap (a2_1 + 1)) t221 s0_0 t214 t215 t216 a1_0 a1_1 a1_2 t212 t213) = some (r1, r2, r3, r4, r5, r6) := H
      have A33 := Aside0.mk A330
      clear A330
      have H' := Aside0.mk H
      clear H
      go_enter Try.func22, Try.ntmps22
      try go_wp2_with (first | ((with_reducible refine gate_dst (N := 4) rfl ?_); refine box_event ?hg (N := 4) ?hd (cs := #[.int .u64 a1_0, .int .u64 a1_1, .int .i64 a1_2]) (t := 56) ?hr ?_; (case hd => rfl); (case hg => rfl); (case hr => first | (go_simp; done) | (go_simp; rfl)); intro gb209 hg w34 hbox hb; have n0_ := Aside0.mk (IsS54.below (by repeat (first | (with_reducible first | exact HI0.out | apply IsS54.alloc | apply IsS54.drewN | apply IsS54.drew | apply IsS54.set_1 | apply IsS54.set_2 | apply IsS54.set_3) | exact HI0.out)) hb); have n1_ := Aside0.mk (KeepBut.trans (by repeat (first | (with_reducible first | exact HK.out | apply KeepBut.set_ | apply keep_drewN | apply keep_drew | apply keep_alloc) | exact HK.out)) (KeepBut.of_below hb g none) (.inl rfl)); have n2_ := Aside0.mk (below_step (by repeat (first | (with_reducible first | exact HB.out | apply below_alloc | apply pw_below_drewN | apply below_drew1 | refine below_set ?_ (IsS54.ge HI0.out)) | exact HB.out)) hb); have n3_ := Aside0.mk (hbox); have n4_ := Aside0.mk ((by rw [hg]; exact (keep_size (w := w) (g := g) (row := none) (by repeat (first | (with_reducible first | exact HK.out | apply KeepBut.set_ | apply keep_drewN | apply keep_drew | apply keep_alloc) | exact HK.out))) : w.heap.size ≤ gb209)); have n5_ := Aside0.mk ((Nat.le_trans HW0.out (by rw [hg]; exact (keep_size (w := w) (g := g) (row := none) (by repeat (first | (with_reducible first | exact HK.out | apply KeepBut.set_ | apply keep_drewN | apply keep_drew | apply keep_alloc) | exact HK.out))) : w.heap.size ≤ gb209) : w0.heap.size ≤ gb209)); have n6_ := Aside0.mk ((by rw [hg]; exact Nat.ne_of_lt (IsS54.lt (show IsS54 w0 _ g s0_0 s0_1 s0_2 s0_3 from by repeat (first | (with_reducible first | exact HI0.out | apply IsS54.alloc | apply IsS54.drewN | apply IsS54.drew | apply IsS54.set_1 | apply IsS54.set_2 | apply IsS54.set_3) | exact HI0.out))) : g ≠ gb209)); have n7_ := Aside0.mk ((by rw [hg]; exact Nat.ne_of_gt (IsS54.lt (show IsS54 w0 _ g s0_0 s0_1 s0_2 s0_3 from by repeat (first | (with_reducible first | exact HI0.out | apply IsS54.alloc | apply IsS54.drewN | apply IsS54.drew | apply IsS54.set_1 | apply IsS54.set_2 | apply IsS54.set_3) | exact HI0.out))) : gb209 ≠ g)); clear HI0; clear HK; clear HB; have HI0 := n0_; have HK := n1_; have HB := n2_; have BK209 := n3_; have GW209 := n4_; have GE209 := n5_; have NB0_209 := n6_; have NB209_0 := n7_; clear n0_ n1_ n2_ n3_ n4_ n5_ n6_ n7_; clear hb hbox hg) | ((with_reducible refine gate_dst (N := 5) rfl ?_); refine box_event ?hg (N := 5) ?hd (cs := #[.int .u64 a2_0, .int .u64 a2_1, .int .i64 a2_2]) (t := 56) ?hr ?_; (case hd => rfl); (case hg => rfl); (case hr => first | (go_simp; done) | (go_simp; rfl)); intro gb210 hg w35 hbox hb; have n0_ := Aside0.mk (IsS54.below (by repeat (first | (with_reducible first | exact HI0.out | apply IsS54.alloc | apply IsS54.drewN | apply IsS54.drew | apply IsS54.set_1 | apply IsS54.set_2 | apply IsS54.set_3 | refine IsS54.far ?_ NB0_209.out _) | exact HI0.out)) hb); have n1_ := Aside0.mk (blk_below (g := gb209) (o := .cells #[.int .u64 a1_0, .int .u64 a1_1, .int .i64 a1_2] 56 (0, 0)) (by (with_reducible repeat (first | refine blk_drewN ?_ _ | refine blk_drew ?_ | refine blk_alloc ?_ _)); exact BK209.out) hb); have n2_ := Aside0.mk (KeepBut.trans (by repeat (first | (with_reducible first | exact HK.out | apply KeepBut.set_ | apply keep_drewN | apply keep_drew | apply keep_alloc | refine keep_far ?_ GW209.out _) | exact HK.out)) (KeepBut.of_below hb g none) (.inl rfl)); have n3_ := Aside0.mk (below_step (by repeat (first | (with_reducible first | exact HB.out | apply below_alloc | apply pw_below_drewN | apply below_drew1 | refine below_set ?_ (IsS54.ge HI0.out) | refine below_set ?_ GE209.out) | exact HB.out)) hb); have n4_ := Aside0.mk (hbox); have n5_ := Aside0.mk ((by rw [hg]; exact (keep_size (w := w) (g := g) (row := none) (by repeat (first | (with_reducible first | exact HK.out | apply KeepBut.set_ | apply keep_drewN | apply keep_drew | apply keep_alloc | refine keep_far ?_ GW209.out _) | exact HK.out))) : w.heap.size ≤ gb210)); have n6_ := Aside0.mk ((Nat.le_trans HW0.out (by rw [hg]; exact (keep_size (w := w) (g := g) (row := none) (by repeat (first | (with_reducible first | exact HK.out | apply KeepBut.set_ | apply keep_drewN | apply keep_drew | apply keep_alloc | refine keep_far ?_ GW209.out _) | exact HK.out))) : w.heap.size ≤ gb210) : w0.heap.size ≤ gb210)); have n7_ := Aside0.mk ((by rw [hg]; exact Nat.ne_of_lt (blk_lt (g := gb209) (o := .cells #[.int .u64 a1_0, .int .u64 a1_1, .int .i64 a1_2] 56 (0, 0)) (by (with_reducible repeat (first | refine blk_drewN ?_ _ | refine blk_drew ?_ | refine blk_alloc ?_ _)); exact BK209.out)) : gb209 ≠ gb210)); have n8_ := Aside0.mk ((by rw [hg]; exact Nat.ne_of_gt (blk_lt (g := gb209) (o := .cells #[.int .u64 a1_0, .int .u64 a1_1, .int .i64 a1_2] 56 (0, 0)) (by (with_reducible repeat (first | refine blk_drewN ?_ _ | refine blk_drew ?_ | refine blk_alloc ?_ _)); exact BK209.out)) : gb210 ≠ gb209)); have n9_ := Aside0.mk ((by rw [hg]; exact Nat.ne_of_lt (IsS54.lt (show IsS54 w0 _ g s0_0 s0_1 s0_2 s0_3 from by repeat (first | (with_reducible first | exact HI0.out | apply IsS54.alloc | apply IsS54.drewN | apply IsS54.drew | apply IsS54.set_1 | apply IsS54.set_2 | apply IsS54.set_3 | refine IsS54.far ?_ NB0_209.out _) | exact HI0.out))) : g ≠ gb210)); have n10_ := Aside0.mk ((by rw [hg]; exact Nat.ne_of_gt (IsS54.lt (show IsS54 w0 _ g s0_0 s0_1 s0_2 s0_3 from by repeat (first | (with_reducible first | exact HI0.out | apply IsS54.alloc | apply IsS54.drewN | apply IsS54.drew | apply IsS54.set_1 | apply IsS54.set_2 | apply IsS54.set_3 | refine IsS54.far ?_ NB0_209.out _) | exact HI0.out))) : gb210 ≠ g)); clear HI0; clear BK209; clear HK; clear HB; have HI0 := n0_; have BK209 := n1_; have HK := n2_; have HB := n3_; have BK210 := n4_; have GW210 := n5_; have GE210 := n6_; have NB209_210 := n7_; have NB210_209 := n8_; have NB0_210 := n9_; have NB210_0 := n10_; clear n0_ n1_ n2_ n3_ n4_ n5_ n6_ n7_ n8_ n9_ n10_; clear hb hbox hg) | ((with_reducible refine gate_dst (N := 6) rfl ?_); refine box_event ?hg (N := 6) ?hd (cs := #[.int .i64 0, .int .u64 0, .int .u64 0]) (t := 33) ?hr ?_; (case hd => rfl); (case hg => rfl); (case hr => first | (go_simp; done) | (go_simp; rfl)); intro gb211 hg w36 hbox hb; have n0_ := Aside0.mk (IsS54.below (by repeat (first | (with_reducible first | exact HI0.out | apply IsS54.alloc | apply IsS54.drewN | apply IsS54.drew | apply IsS54.set_1 | apply IsS54.set_2 | apply IsS54.set_3 | refine IsS54.far ?_ NB0_209.out _ | refine IsS54.far ?_ NB0_210.out _) | exact HI0.out)) hb); have n1_ := Aside0.mk (blk_below (g := gb209) (o := .cells #[.int .u64 a1_0, .int .u64 a1_1, .int .i64 a1_2] 56 (0, 0)) (by (with_reducible repeat (first | refine blk_drewN ?_ _ | refine blk_drew ?_ | refine blk_alloc ?_ _)); exact BK209.out) hb); have n2_ := Aside0.mk (blk_below (g := gb210) (o := .cells #[.int .u64 a2_0, .int .u64 a2_1, .int .i64 a2_2] 56 (0, 0)) (by (with_reducible repeat (first | refine blk_drewN ?_ _ | refine blk_drew ?_ | refine blk_alloc ?_ _)); exact BK210.out) hb); have n3_ := Aside0.mk (KeepBut.trans (by repeat (first | (with_reducible first | exact HK.out | apply KeepBut.set_ | apply keep_drewN | apply keep_drew | apply keep_alloc | refine keep_far ?_ GW209.out _ | refine keep_far ?_ GW210.out _) | exact HK.out)) (KeepBut.of_below hb g none) (.inl rfl)); have n4_ := Aside0.mk (below_step (by repeat (first | (with_reducible first | exact HB.out | apply below_alloc | apply pw_below_drewN | apply below_drew1 | refine below_set ?_ (IsS54.ge HI0.out) | refine below_set ?_ GE209.out | refine below_set ?_ GE210.out) | exact HB.out)) hb); have n5_ := Aside0.mk (hbox); have n6_ := Aside0.mk ((by rw [hg]; exact (keep_size (w := w) (g := g) (row := none) (by repeat (first | (with_reducible first | exact HK.out | apply KeepBut.set_ | apply keep_drewN | apply keep_drew | apply keep_alloc | refine keep_far ?_ GW209.out _ | refine keep_far ?_ GW210.out _) | exact HK.out))) : w.heap.size ≤ gb211)); have n7_ := Aside0.mk ((Nat.le_trans HW0.out (by rw [hg]; exact (keep_size (w := w) (g := g) (row := none) (by repeat (first | (with_reducible first | exact HK.out | apply KeepBut.set_ | apply keep_drewN | apply keep_drew | apply keep_alloc | refine keep_far ?_ GW209.out _ | refine keep_far ?_ GW210.out _) | exact HK.out))) : w.heap.size ≤ gb211) : w0.heap.size ≤ gb211)); have n8_ := Aside0.mk ((by rw [hg]; exact Nat.ne_of_lt (blk_lt (g := gb209) (o := .cells #[.int .u64 a1_0, .int .u64 a1_1, .int .i64 a1_2] 56 (0, 0)) (by (with_reducible repeat (first | refine blk_drewN ?_ _ | refine blk_drew ?_ | refine blk_alloc ?_ _)); exact BK209.out)) : gb209 ≠ gb211)); have n9_ := Aside0.mk ((by rw [hg]; exact Nat.ne_of_gt (blk_lt (g := gb209) (o := .cells #[.int .u64 a1_0, .int .u64 a1_1, .int .i64 a1_2] 56 (0, 0)) (by (with_reducible repeat (first | refine blk_drewN ?_ _ | refine blk_drew ?_ | refine blk_alloc ?_ _)); exact BK209.out)) : gb211 ≠ gb209)); have n10_ := Aside0.mk ((by rw [hg]; exact Nat.ne_of_lt (blk_lt (g := gb210) (o := .cells #[.int .u64 a2_0, .int .u64 a2_1, .int .i64 a2_2] 56 (0, 0)) (by (with_reducible repeat (first | refine blk_drewN ?_ _ | refine blk_drew ?_ | refine blk_alloc ?_ _)); exact BK210.out)) : gb210 ≠ gb211)); have n11_ := Aside0.mk ((by rw [hg]; exact Nat.ne_of_gt (blk_lt (g := gb210) (o := .cells #[.int .u64 a2_0, .int .u64 a2_1, .int .i64 a2_2] 56 (0, 0)) (by (with_reducible repeat (first | refine blk_drewN ?_ _ | refine blk_drew ?_ | refine blk_alloc ?_ _)); exact BK210.out)) : gb211 ≠ gb210)); have n12_ := Aside0.mk ((by rw [hg]; exact Nat.ne_of_lt (IsS54.lt (show IsS54 w0 _ g s0_0 s0_1 s0_2 s0_3 from by repeat (first | (with_reducible first | exact HI0.out | apply IsS54.alloc | apply IsS54.drewN | apply IsS54.drew | apply IsS54.set_1 | apply IsS54.set_2 | apply IsS54.set_3 | refine IsS54.far ?_ NB0_209.out _ | refine IsS54.far ?_ NB0_210.out _) | exact HI0.out))) : g ≠ gb211)); have n13_ := Aside0.mk ((by rw [hg]; exact Nat.ne_of_gt (IsS54.lt (show IsS54 w0 _ g s0_0 s0_1 s0_2 s0_3 from by repeat (first | (with_reducible first | exact HI0.out | apply IsS54.alloc | apply IsS54.drewN | apply IsS54.drew | apply IsS54.set_1 | apply IsS54.set_2 | apply IsS54.set_3 | refine IsS54.far ?_ NB0_209.out _ | refine IsS54.far ?_ NB0_210.out _) | exact HI0.out))) : gb211 ≠ g)); clear HI0; clear BK209; clear BK210; clear HK; clear HB; have HI0 := n0_; have BK209 := n1_; have BK210 := n2_; have HK := n3_; have HB := n4_; have BK211 := n5_; have GW211 := n6_; have GE211 := n7_; have NB209_211 := n8_; have NB211_209 := n9_; have NB210_211 := n10_; have NB211_210 := n11_; have NB0_211 := n12_; have NB211_0 := n13_; clear n0_ n1_ n2_ n3_ n4_ n5_ n6_ n7_ n8_ n9_ n10_ n11_ n12_ n13_; clear hb hbox hg; have hnb37 := NB210_209.out; have hnc37 := NB209_210.out; have hnb38 := NB210_211.out; have hnc38 := NB211_210.out; have hnb39 := NB210_0.out; have hnc39 := NB0_210.out; have hcz40_0 : w36.cell? ⟨gb210, 0, none⟩ = some (.int .u64 a2_0) := (blk_cell BK210.out 0).trans rfl; have hcz40_1 : w36.cell? ⟨gb210, 1, none⟩ = some (.int .u64 a2_1) := (blk_cell BK210.out 1).trans rfl; have hcz40_2 : w36.cell? ⟨gb210, 2, none⟩ = some (.int .i64 a2_2) := (blk_cell BK210.out 2).trans rfl; have hfz40_0 := blk_frozen BK210.out 0; have hfz40_1 := blk_frozen BK210.out 1; have hfz40_2 := blk_frozen BK210.out 2) | ((with_reducible refine gate_callee (f := 34) rfl ?_); refine goesL_ (some 14) rfl rfl Try.func34 (by kernel_rfl) rfl #[.pointer (some ⟨g, 0, none⟩), .int .u64 a2_0] rfl (by (try simp only [List.map_toArray, List.map_cons, List.map_nil]); first | done | rfl | (simp only [List.length_drop, List.length_take]; rfl)) ?_; (with_reducible refine (prio_Sampler_all.calls g s0_0 s0_1 s0_2 s0_3 a2_0 t212 t213 t214 t215 t216 w0 _ ?side1 ?side2 A4.out).mono ?_); (case side1 => repeat (first | (with_reducible first | exact HI0.out | apply IsS54.alloc | apply IsS54.drewN | apply IsS54.drew | apply IsS54.set_1 | apply IsS54.set_2 | apply IsS54.set_3 | refine IsS54.far ?_ NB0_209.out _ | refine IsS54.far ?_ NB0_210.out _ | refine IsS54.far ?_ NB0_211.out _) | exact HI0.out)); (case side2 => repeat (first | (with_reducible first | exact HB.out | apply below_alloc | apply pw_below_drewN | apply below_drew1 | refine below_set ?_ (IsS54.ge HI0.out) | refine below_set ?_ GE209.out | refine below_set ?_ GE210.out | refine below_set ?_ GE211.out) | exact HB.out)); rintro e w41 ⟨rfl, hi, hb, hk⟩; refine ⟨_, rfl, ?_⟩; have n0_ := Aside0.mk (KeepBut.blk hk (g' := gb209) (o := .cells #[.int .u64 a1_0, .int .u64 a1_1, .int .i64 a1_2] 56 (0, 0)) (by (with_reducible repeat (first | refine blk_drewN ?_ _ | refine blk_drew ?_ | refine blk_alloc ?_ _)); exact BK209.out) NB209_0.out (by simp)); have n1_ := Aside0.mk (KeepBut.blk hk (g' := gb210) (o := .cells #[.int .u64 a2_0, .int .u64 a2_1, .int .i64 a2_2] 56 (0, 0)) (by (with_reducible repeat (first | refine blk_drewN ?_ _ | refine blk_drew ?_ | refine blk_alloc ?_ _)); exact BK210.out) NB210_0.out (by simp)); have n2_ := Aside0.mk (KeepBut.blk hk (g' := gb211) (o := .cells #[.int .i64 0, .int .u64 0, .int .u64 0] 33 (0, 0)) (by (with_reducible repeat (first | refine blk_drewN ?_ _ | refine blk_drew ?_ | refine blk_alloc ?_ _)); exact BK211.out) NB211_0.out (by simp)); have n3_ := Aside0.mk (KeepBut.trans (by repeat (first | (with_reducible first | exact HK.out | apply KeepBut.set_ | apply keep_drewN | apply keep_drew | apply keep_alloc | refine keep_far ?_ GW209.out _ | refine keep_far ?_ GW210.out _ | refine keep_far ?_ GW211.out _) | exact HK.out)) hk (.inl rfl)); have n4_ := Aside0.mk (hb); have n5_ := Aside0.mk (hi); clear BK209; clear BK210; clear BK211; clear HK; clear HB; clear HI0; have BK209 := n0_; have BK210 := n1_; have BK211 := n2_; have HK := n3_; have HB := n4_; have HI0 := n5_; clear n0_ n1_ n2_ n3_ n4_ n5_; (try clear hb); (try clear hb2); (try clear hk); (try clear hi)) | ((with_reducible refine gate_dst (N := 7) rfl ?_); refine box_event ?hg (N := 7) ?hd (cs := #[.int .u64 0, .int .u64 0]) (t := 75) ?hr ?_; (case hd => rfl); (case hg => rfl); (case hr => first | (go_simp; done) | (go_simp; rfl)); intro gb217 hg w42 hbox hb; have n0_ := Aside0.mk (IsS54.below (by repeat (first | (with_reducible first | exact HI0.out | apply IsS54.alloc | apply IsS54.drewN | apply IsS54.drew | apply IsS54.set_1 | apply IsS54.set_2 | apply IsS54.set_3 | refine IsS54.far ?_ NB0_209.out _ | refine IsS54.far ?_ NB0_210.out _ | refine IsS54.far ?_ NB0_211.out _) | exact HI0.out)) hb); have n1_ := Aside0.mk (blk_below (g := gb209) (o := .cells #[.int .u64 a1_0, .int .u64 a1_1, .int .i64 a1_2] 56 (0, 0)) (by (with_reducible repeat (first | refine blk_drewN ?_ _ | refine blk_drew ?_ | refine blk_alloc ?_ _)); exact BK209.out) hb); have n2_ := Aside0.mk (blk_below (g := gb210) (o := .cells #[.int .u64 a2_0, .int .u64 a2_1, .int .i64 a2_2] 56 (0, 0)) (by (with_reducible repeat (first | refine blk_drewN ?_ _ | refine blk_drew ?_ | refine blk_alloc ?_ _)); exact BK210.out) hb); have n3_ := Aside0.mk (blk_below (g := gb211) (o := .cells #[.int .i64 0, .int .u64 0, .int .u64 0] 33 (0, 0)) (by (with_reducible repeat (first | refine blk_drewN ?_ _ | refine blk_drew ?_ | refine blk_alloc ?_ _)); exact BK211.out) hb); have n4_ := Aside0.mk (KeepBut.trans (by repeat (first | (with_reducible first | exact HK.out | apply KeepBut.set_ | apply keep_drewN | apply keep_drew | apply keep_alloc | refine keep_far ?_ GW209.out _ | refine keep_far ?_ GW210.out _ | refine keep_far ?_ GW211.out _) | exact HK.out)) (KeepBut.of_below hb g none) (.inl rfl)); have n5_ := Aside0.mk (below_step (by repeat (first | (with_reducible first | exact HB.out | apply below_alloc | apply pw_below_drewN | apply below_drew1 | refine below_set ?_ (IsS54.ge HI0.out) | refine below_set ?_ GE209.out | refine below_set ?_ GE210.out | refine below_set ?_ GE211.out) | exact HB.out)) hb); have n6_ := Aside0.mk (hbox); have n7_ := Aside0.mk ((by rw [hg]; exact (keep_size (w := w) (g := g) (row := none) (by repeat (first | (with_reducible first | exact HK.out | apply KeepBut.set_ | apply keep_drewN | apply keep_drew | apply keep_alloc | refine keep_far ?_ GW209.out _ | refine keep_far ?_ GW210.out _ | refine keep_far ?_ GW211.out _) | exact HK.out))) : w.heap.size ≤ gb217)); have n8_ := Aside0.mk ((Nat.le_trans HW0.out (by rw [hg]; exact (keep_size (w := w) (g := g) (row := none) (by repeat (first | (with_reducible first | exact HK.out | apply KeepBut.set_ | apply keep_drewN | apply keep_drew | apply keep_alloc | refine keep_far ?_ GW209.out _ | refine keep_far ?_ GW210.out _ | refine keep_far ?_ GW211.out _) | exact HK.out))) : w.heap.size ≤ gb217) : w0.heap.size ≤ gb217)); have n9_ := Aside0.mk ((by rw [hg]; exact Nat.ne_of_lt (blk_lt (g := gb209) (o := .cells #[.int .u64 a1_0, .int .u64 a1_1, .int .i64 a1_2] 56 (0, 0)) (by (with_reducible repeat (first | refine blk_drewN ?_ _ | refine blk_drew ?_ | refine blk_alloc ?_ _)); exact BK209.out)) : gb209 ≠ gb217)); have n10_ := Aside0.mk ((by rw [hg]; exact Nat.ne_of_gt (blk_lt (g := gb209) (o := .cells #[.int .u64 a1_0, .int .u64 a1_1, .int .i64 a1_2] 56 (0, 0)) (by (with_reducible repeat (first | refine blk_drewN ?_ _ | refine blk_drew ?_ | refine blk_alloc ?_ _)); exact BK209.out)) : gb217 ≠ gb209)); have n11_ := Aside0.mk ((by rw [hg]; exact Nat.ne_of_lt (blk_lt (g := gb210) (o := .cells #[.int .u64 a2_0, .int .u64 a2_1, .int .i64 a2_2] 56 (0, 0)) (by (with_reducible repeat (first | refine blk_drewN ?_ _ | refine blk_drew ?_ | refine blk_alloc ?_ _)); exact BK210.out)) : gb210 ≠ gb217)); have n12_ := Aside0.mk ((by rw [hg]; exact Nat.ne_of_gt (blk_lt (g := gb210) (o := .cells #[.int .u64 a2_0, .int .u64 a2_1, .int .i64 a2_2] 56 (0, 0)) (by (with_reducible repeat (first | refine blk_drewN ?_ _ | refine blk_drew ?_ | refine blk_alloc ?_ _)); exact BK210.out)) : gb217 ≠ gb210)); have n13_ := Aside0.mk ((by rw [hg]; exact Nat.ne_of_lt (blk_lt (g := gb211) (o := .cells #[.int .i64 0, .int .u64 0, .int .u64 0] 33 (0, 0)) (by (with_reducible repeat (first | refine blk_drewN ?_ _ | refine blk_drew ?_ | refine blk_alloc ?_ _)); exact BK211.out)) : gb211 ≠ gb217)); have n14_ := Aside0.mk ((by rw [hg]; exact Nat.ne_of_gt (blk_lt (g := gb211) (o := .cells #[.int .i64 0, .int .u64 0, .int .u64 0] 33 (0, 0)) (by (with_reducible repeat (first | refine blk_drewN ?_ _ | refine blk_drew ?_ | refine blk_alloc ?_ _)); exact BK211.out)) : gb217 ≠ gb211)); have n15_ := Aside0.mk ((by rw [hg]; exact Nat.ne_of_lt (IsS54.lt (show IsS54 w0 _ g s0_0 t214 t215 t216 from by repeat (first | (with_reducible first | exact HI0.out | apply IsS54.alloc | apply IsS54.drewN | apply IsS54.drew | apply IsS54.set_1 | apply IsS54.set_2 | apply IsS54.set_3 | refine IsS54.far ?_ NB0_209.out _ | refine IsS54.far ?_ NB0_210.out _ | refine IsS54.far ?_ NB0_211.out _) | exact HI0.out))) : g ≠ gb217)); have n16_ := Aside0.mk ((by rw [hg]; exact Nat.ne_of_gt (IsS54.lt (show IsS54 w0 _ g s0_0 t214 t215 t216 from by repeat (first | (with_reducible first | exact HI0.out | apply IsS54.alloc | apply IsS54.drewN | apply IsS54.drew | apply IsS54.set_1 | apply IsS54.set_2 | apply IsS54.set_3 | refine IsS54.far ?_ NB0_209.out _ | refine IsS54.far ?_ NB0_210.out _ | refine IsS54.far ?_ NB0_211.out _) | exact HI0.out))) : gb217 ≠ g)); clear HI0; clear BK209; clear BK210; clear BK211; clear HK; clear HB; have HI0 := n0_; have BK209 := n1_; have BK210 := n2_; have BK211 := n3_; have HK := n4_; have HB := n5_; have BK217 := n6_; have GW217 := n7_; have GE217 := n8_; have NB209_217 := n9_; have NB217_209 := n10_; have NB210_217 := n11_; have NB217_210 := n12_; have NB211_217 := n13_; have NB217_211 := n14_; have NB0_217 := n15_; have NB217_0 := n16_; clear n0_ n1_ n2_ n3_ n4_ n5_ n6_ n7_ n8_ n9_ n10_ n11_ n12_ n13_ n14_ n15_ n16_; clear hb hbox hg; have hnb43 := NB217_209.out; have hnc43 := NB209_217.out; have hnb44 := NB217_210.out; have hnc44 := NB210_217.out; have hnb45 := NB217_211.out; have hnc45 := NB211_217.out; have hnb46 := NB217_0.out; have hnc46 := NB0_217.out; have hcz47_0 : w42.cell? ⟨gb217, 0, none⟩ = some (.int .u64 0) := (blk_cell BK217.out 0).trans rfl; have hcz47_1 : w42.cell? ⟨gb217, 1, none⟩ = some (.int .u64 0) := (blk_cell BK217.out 1).trans rfl; have hfz47_0 := blk_frozen BK217.out 0; have hfz47_1 := blk_frozen BK217.out 1))
      have n0_ : Aside0 (((w42.setCell ⟨gb217, 0, none⟩ (.int .u64 t212)).setCell ⟨gb217, 1, none⟩ (.int .u64 t213)).heap[gb209]? = some (.cells #[.int .u64 a1_0, .int .u64 a1_1, .int .i64 a1_2] 56 (0, 0))) := ⟨by (with_reducible repeat (first | refine blk_drewN ?_ _ | refine blk_drew ?_ | refine blk_alloc ?_ _)); refine blk_far ?_ NB209_217.out _; (with_reducible repeat (first | refine blk_drewN ?_ _ | refine blk_drew ?_ | refine blk_alloc ?_ _)); refine blk_far ?_ NB209_217.out _; (with_reducible repeat (first | refine blk_drewN ?_ _ | refine blk_drew ?_ | refine blk_alloc ?_ _)); exact BK209.out⟩
      have n1_ : Aside0 (((w42.setCell ⟨gb217, 0, none⟩ (.int .u64 t212)).setCell ⟨gb217, 1, none⟩ (.int .u64 t213)).heap[gb210]? = some (.cells #[.int .u64 a2_0, .int .u64 a2_1, .int .i64 a2_2] 56 (0, 0))) := ⟨by (with_reducible repeat (first | refine blk_drewN ?_ _ | refine blk_drew ?_ | refine blk_alloc ?_ _)); refine blk_far ?_ NB210_217.out _; (with_reducible repeat (first | refine blk_drewN ?_ _ | refine blk_drew ?_ | refine blk_alloc ?_ _)); refine blk_far ?_ NB210_217.out _; (with_reducible repeat (first | refine blk_drewN ?_ _ | refine blk_drew ?_ | refine blk_alloc ?_ _)); exact BK210.out⟩
      have n2_ : Aside0 (((w42.setCell ⟨gb217, 0, none⟩ (.int .u64 t212)).setCell ⟨gb217, 1, none⟩ (.int .u64 t213)).heap[gb211]? = some (.cells #[.int .i64 0, .int .u64 0, .int .u64 0] 33 (0, 0))) := ⟨by (with_reducible repeat (first | refine blk_drewN ?_ _ | refine blk_drew ?_ | refine blk_alloc ?_ _)); refine blk_far ?_ NB211_217.out _; (with_reducible repeat (first | refine blk_drewN ?_ _ | refine blk_drew ?_ | refine blk_alloc ?_ _)); refine blk_far ?_ NB211_217.out _; (with_reducible repeat (first | refine blk_drewN ?_ _ | refine blk_drew ?_ | refine blk_alloc ?_ _)); exact BK211.out⟩
      have n3_ : Aside0 (((w42.setCell ⟨gb217, 0, none⟩ (.int .u64 t212)).setCell ⟨gb217, 1, none⟩ (.int .u64 t213)).heap[gb217]? = some (.cells #[.int .u64 t212, .int .u64 t213] 75 (0, 0))) := ⟨by (with_reducible repeat (first | refine blk_drewN ?_ _ | refine blk_drew ?_ | refine blk_alloc ?_ _)); refine blk_put (cs := #[.int .u64 t212, .int .u64 0]) ?_ 1 _ rfl; (with_reducible repeat (first | refine blk_drewN ?_ _ | refine blk_drew ?_ | refine blk_alloc ?_ _)); refine blk_put (cs := #[.int .u64 0, .int .u64 0]) ?_ 0 _ rfl; (with_reducible repeat (first | refine blk_drewN ?_ _ | refine blk_drew ?_ | refine blk_alloc ?_ _)); exact BK217.out⟩
      have n4_ : Aside0 (IsS54 w0 ((w42.setCell ⟨gb217, 0, none⟩ (.int .u64 t212)).setCell ⟨gb217, 1, none⟩ (.int .u64 t213)) g s0_0 t214 t215 t216) := ⟨by repeat (first | (with_reducible first | exact HI0.out | apply IsS54.alloc | apply IsS54.drewN | apply IsS54.drew | apply IsS54.set_1 | apply IsS54.set_2 | apply IsS54.set_3 | refine IsS54.far ?_ NB0_209.out _ | refine IsS54.far ?_ NB0_210.out _ | refine IsS54.far ?_ NB0_211.out _ | refine IsS54.far ?_ NB0_217.out _) | exact HI0.out)⟩
      have n5_ : Aside0 (KeepBut w ((w42.setCell ⟨gb217, 0, none⟩ (.int .u64 t212)).setCell ⟨gb217, 1, none⟩ (.int .u64 t213)) g none) := ⟨by repeat (first | (with_reducible first | exact HK.out | apply KeepBut.set_ | apply keep_drewN | apply keep_drew | apply keep_alloc | refine keep_far ?_ GW209.out _ | refine keep_far ?_ GW210.out _ | refine keep_far ?_ GW211.out _ | refine keep_far ?_ GW217.out _) | exact HK.out)⟩
      have n6_ : Aside0 (Below w0.heap.size w0 ((w42.setCell ⟨gb217, 0, none⟩ (.int .u64 t212)).setCell ⟨gb217, 1, none⟩ (.int .u64 t213))) := ⟨by repeat (first | (with_reducible first | exact HB.out | apply below_alloc | apply pw_below_drewN | apply below_drew1 | refine below_set ?_ (IsS54.ge HI0.out) | refine below_set ?_ GE209.out | refine below_set ?_ GE210.out | refine below_set ?_ GE211.out | refine below_set ?_ GE217.out) | exact HB.out)⟩
      (try clear BK209)
      (try clear BK210)
      (try clear BK211)
      (try clear BK217)
      (try clear HI0)
      (try clear HK)
      (try clear HB)
      generalize ((w42.setCell ⟨gb217, 0, none⟩ (.int .u64 t212)).setCell ⟨gb217, 1, none⟩ (.int .u64 t213)) = w48 at n0_ n1_ n2_ n3_ n4_ n5_ n6_ ⊢
      have BK209 := n0_
      have BK210 := n1_
      have BK211 := n2_
      have BK217 := n3_
      have HI0 := n4_
      have HK := n5_
      have HB := n6_
      clear n0_ n1_ n2_ n3_ n4_ n5_ n6_
      have n0_ := Aside0.mk (blk_drew BK209.out)
      have n1_ := Aside0.mk (blk_drew BK210.out)
      have n2_ := Aside0.mk (blk_drew BK211.out)
      have n3_ := Aside0.mk (blk_drew BK217.out)
      have n4_ := Aside0.mk (IsS54.drew HI0.out)
      have n5_ := Aside0.mk (keep_drew HK.out)
      have n6_ := Aside0.mk (below_drew1 HB.out)
      clear BK209
      clear BK210
      clear BK211
      clear BK217
      clear HI0
      clear HK
      clear HB
      have BK209 := n0_
      have BK210 := n1_
      have BK211 := n2_
      have BK217 := n3_
      have HI0 := n4_
      have HK := n5_
      have HB := n6_
      clear n0_ n1_ n2_ n3_ n4_ n5_ n6_
      refine start_ (n := 8) (S := fun w' => w'.cell? ⟨gb217, 0, none⟩ = some (.int .u64 t212) ∧ w'.cell? ⟨gb217, 1, none⟩ = some (.int .u64 t213) ∧ w'.cell? ⟨gb209, 0, none⟩ = some (.int .u64 a1_0) ∧ w'.cell? ⟨gb209, 1, none⟩ = some (.int .u64 a1_1) ∧ w'.cell? ⟨gb209, 2, none⟩ = some (.int .i64 a1_2) ∧ w'.cell? ⟨gb210, 0, none⟩ = some (.int .u64 a2_0) ∧ w'.cell? ⟨gb210, 1, none⟩ = some (.int .u64 a2_1) ∧ w'.cell? ⟨gb210, 2, none⟩ = some (.int .i64 a2_2)) (ds := []) #[false, false, false, false, false, false, false, false] (by kernel_rfl) rfl rfl ⟨(blk_cell BK217.out 0).trans rfl, (blk_cell BK217.out 1).trans rfl, (blk_cell BK209.out 0).trans rfl, (blk_cell BK209.out 1).trans rfl, (blk_cell BK209.out 2).trans rfl, (blk_cell BK210.out 0).trans rfl, (blk_cell BK210.out 1).trans rfl, (blk_cell BK210.out 2).trans rfl⟩ (fun hHeld => ?_); refine with_tabW prio_Sampler_counts.tab2 prio_Sampler_counts.bits2 (fun HT_ HW_ => ?_)
      generalize w48.drew = w49 at BK209 BK210 BK211 BK217 HI0 HK HB hHeld ⊢
      refine pure_ (i := 1) (N := some 16) (v := ?_) (a' := ?_) #[false, true, false, false, false, false, false, false] rfl rfl (any_of HT_.out (by kernel_rfl)) (fun _ _ _ h => h) (Or.inl ⟨by rfl, ?_⟩) ?_ ?_
      rotate_left
      · intro w'
        go_simp
        with_reducible rfl
      rotate_left
      · simp only [Act.put, List.setIfInBounds_toArray, List.set_cons_zero, List.set_cons_succ, i64_w, i32_w]
        rfl
      refine pure_ (i := 3) (N := some 18) (v := ?_) (a' := ?_) #[false, true, false, true, false, false, false, false] rfl rfl (any_of HT_.out (by kernel_rfl)) (fun _ _ _ h => h) (Or.inl ⟨by rfl, ?_⟩) ?_ ?_
      rotate_left
      · intro w'
        go_simp
        with_reducible rfl
      rotate_left
      · simp only [Act.put, List.setIfInBounds_toArray, List.set_cons_zero, List.set_cons_succ, i64_w, i32_w]
        rfl
      refine take_ (i := 0) (N := some 15) (v := ?_) (a' := ?_) #[true, true, false, true, false, false, false, false] rfl rfl (take_ofW HT_.out HW_.out (by kernel_rfl)) (fun _ _ _ h => h) (Or.inl ⟨by rfl, ?_⟩) hHeld ?_ ?_
      rotate_left
      · rintro w' ⟨s0, s1, s2, s3, s4, s5, s6, s7⟩
        go_simp
        with_reducible rfl
      rotate_left
      · simp only [Act.put, List.setIfInBounds_toArray, List.set_cons_zero, List.set_cons_succ, i64_w, i32_w]
        rfl
      refine take_ (i := 2) (N := some 17) (v := ?_) (a' := ?_) #[true, true, true, true, false, false, false, false] rfl rfl (take_ofW HT_.out HW_.out (by kernel_rfl)) (fun _ _ _ h => h) (Or.inl ⟨by rfl, ?_⟩) hHeld ?_ ?_
      rotate_left
      · rintro w' ⟨s0, s1, s2, s3, s4, s5, s6, s7⟩
        go_simp
        with_reducible rfl
      rotate_left
      · simp only [Act.put, List.setIfInBounds_toArray, List.set_cons_zero, List.set_cons_succ, i64_w, i32_w]
        rfl
      refine take_ (i := 4) (N := some 19) (v := ?_) (a' := ?_) #[true, true, true, true, true, false, false, false] rfl rfl (take_ofW HT_.out HW_.out (by kernel_rfl)) (fun _ _ _ h => h) (Or.inl ⟨by rfl, ?_⟩) hHeld ?_ ?_
      rotate_left
      · rintro w' ⟨s0, s1, s2, s3, s4, s5, s6, s7⟩
        go_simp
        with_reducible rfl
      rotate_left
      · simp only [Act.put, List.setIfInBounds_toArray, List.set_cons_zero, List.set_cons_succ, i64_w, i32_w]
        rfl
      refine one_ (i := 5) (N := some 20) #[true, true, true, true, true, true, false, false] rfl rfl (one_of HT_.out (by kernel_rfl)) (by decide) (fun K hK => ?_)
      refine goes_ Try.func29 (by kernel_rfl) rfl #[.int .u64 a1_0, .int .u64 a2_1] (by rfl) rfl rfl (by (try simp only [List.map_toArray, List.map_cons, List.map_nil]); first | done | rfl | (simp only [List.length_drop, List.length_take]; rfl)) ?_
      with_reducible refine (prio_next.calls a1_0 a2_1 t218 t219 _ A5.out).mono ?_
      rintro e w50 ⟨rfl, hb⟩
      refine ⟨_, rfl, ?_⟩
      have n0_ := Aside0.mk (IsS54.below (by repeat (first | (with_reducible first | exact HI0.out | apply IsS54.alloc | apply IsS54.drewN | apply IsS54.drew | apply IsS54.set_1 | apply IsS54.set_2 | apply IsS54.set_3 | refine IsS54.far ?_ NB0_209.out _ | refine IsS54.far ?_ NB0_210.out _ | refine IsS54.far ?_ NB0_211.out _ | refine IsS54.far ?_ NB0_217.out _) | exact HI0.out)) hb)
      have n1_ := Aside0.mk (blk_below (g := gb209) (o := .cells #[.int .u64 a1_0, .int .u64 a1_1, .int .i64 a1_2] 56 (0, 0)) (by (with_reducible repeat (first | refine blk_drewN ?_ _ | refine blk_drew ?_ | refine blk_alloc ?_ _)); exact BK209.out) hb)
      have n2_ := Aside0.mk (blk_below (g := gb210) (o := .cells #[.int .u64 a2_0, .int .u64 a2_1, .int .i64 a2_2] 56 (0, 0)) (by (with_reducible repeat (first | refine blk_drewN ?_ _ | refine blk_drew ?_ | refine blk_alloc ?_ _)); exact BK210.out) hb)
      have n3_ := Aside0.mk (blk_below (g := gb211) (o := .cells #[.int .i64 0, .int .u64 0, .int .u64 0] 33 (0, 0)) (by (with_reducible repeat (first | refine blk_drewN ?_ _ | refine blk_drew ?_ | refine blk_alloc ?_ _)); exact BK211.out) hb)
      have n4_ := Aside0.mk (blk_below (g := gb217) (o := .cells #[.int .u64 t212, .int .u64 t213] 75 (0, 0)) (by (with_reducible repeat (first | refine blk_drewN ?_ _ | refine blk_drew ?_ | refine blk_alloc ?_ _)); exact BK217.out) hb)
      have n5_ := Aside0.mk (KeepBut.trans (by repeat (first | (with_reducible first | exact HK.out | apply KeepBut.set_ | apply keep_drewN | apply keep_drew | apply keep_alloc | refine keep_far ?_ GW209.out _ | refine keep_far ?_ GW210.out _ | refine keep_far ?_ GW211.out _ | refine keep_far ?_ GW217.out _) | exact HK.out)) (KeepBut.of_below hb g none) (.inl rfl))
      have n6_ := Aside0.mk (below_step (by repeat (first | (with_reducible first | exact HB.out | apply below_alloc | apply pw_below_drewN | apply below_drew1 | refine below_set ?_ (IsS54.ge HI0.out) | refine below_set ?_ GE209.out | refine below_set ?_ GE210.out | refine below_set ?_ GE211.out | refine below_set ?_ GE217.out) | exact HB.out)) hb)
      clear HI0
      clear BK209
      clear BK210
      clear BK211
      clear BK217
      clear HK
      clear HB
      have HI0 := n0_
      have BK209 := n1_
      have BK210 := n2_
      have BK211 := n3_
      have BK217 := n4_
      have HK := n5_
      have HB := n6_
      clear n0_ n1_ n2_ n3_ n4_ n5_ n6_
      (try clear hb)
      (try clear hb2)
      (try clear hk)
      (try clear hi)
      refine hK.out _ _ ⟨(blk_cell BK217.out 0).trans rfl, (blk_cell BK217.out 1).trans rfl, (blk_cell BK209.out 0).trans rfl, (blk_cell BK209.out 1).trans rfl, (blk_cell BK209.out 2).trans rfl, (blk_cell BK210.out 0).trans rfl, (blk_cell BK210.out 1).trans rfl, (blk_cell BK210.out 2).trans rfl⟩ (fun hHeld => ?_)
      clear hK K
      refine norm_ (a' := ?_) ?_ ?_
      rotate_left
      · show Act.put _ (some 20) _ = _
        simp only [Act.put, List.setIfInBounds_toArray, List.set_cons_zero, List.set_cons_succ, i64_w, i32_w]
        rfl
      refine one_ (i := 6) (N := some 21) #[true, true, true, true, true, true, true, false] rfl rfl (one_of HT_.out (by kernel_rfl)) (by decide) (fun K hK => ?_)
      refine goes_ Try.func30 (by kernel_rfl) rfl #[.agg #[.int .u64 t212, .int .u64 t213], .agg #[.int .u64 t218, .int .u64 t219]] (by rfl) rfl rfl (by (try simp only [List.map_toArray, List.map_cons, List.map_nil]); first | done | rfl | (simp only [List.length_drop, List.length_take]; rfl)) ?_
      with_reducible refine (prio_wide_above.calls t212 t213 t218 t219 true _ A6.out).mono ?_
      rintro e w51 ⟨rfl, hb⟩
      refine ⟨_, rfl, ?_⟩
      have n0_ := Aside0.mk (IsS54.below (by repeat (first | (with_reducible first | exact HI0.out | apply IsS54.alloc | apply IsS54.drewN | apply IsS54.drew | apply IsS54.set_1 | apply IsS54.set_2 | apply IsS54.set_3 | refine IsS54.far ?_ NB0_209.out _ | refine IsS54.far ?_ NB0_210.out _ | refine IsS54.far ?_ NB0_211.out _ | refine IsS54.far ?_ NB0_217.out _) | exact HI0.out)) hb)
      have n1_ := Aside0.mk (blk_below (g := gb209) (o := .cells #[.int .u64 a1_0, .int .u64 a1_1, .int .i64 a1_2] 56 (0, 0)) (by (with_reducible repeat (first | refine blk_drewN ?_ _ | refine blk_drew ?_ | refine blk_alloc ?_ _)); exact BK209.out) hb)
      have n2_ := Aside0.mk (blk_below (g := gb210) (o := .cells #[.int .u64 a2_0, .int .u64 a2_1, .int .i64 a2_2] 56 (0, 0)) (by (with_reducible repeat (first | refine blk_drewN ?_ _ | refine blk_drew ?_ | refine blk_alloc ?_ _)); exact BK210.out) hb)
      have n3_ := Aside0.mk (blk_below (g := gb211) (o := .cells #[.int .i64 0, .int .u64 0, .int .u64 0] 33 (0, 0)) (by (with_reducible repeat (first | refine blk_drewN ?_ _ | refine blk_drew ?_ | refine blk_alloc ?_ _)); exact BK211.out) hb)
      have n4_ := Aside0.mk (blk_below (g := gb217) (o := .cells #[.int .u64 t212, .int .u64 t213] 75 (0, 0)) (by (with_reducible repeat (first | refine blk_drewN ?_ _ | refine blk_drew ?_ | refine blk_alloc ?_ _)); exact BK217.out) hb)
      have n5_ := Aside0.mk (KeepBut.trans (by repeat (first | (with_reducible first | exact HK.out | apply KeepBut.set_ | apply keep_drewN | apply keep_drew | apply keep_alloc | refine keep_far ?_ GW209.out _ | refine keep_far ?_ GW210.out _ | refine keep_far ?_ GW211.out _ | refine keep_far ?_ GW217.out _) | exact HK.out)) (KeepBut.of_below hb g none) (.inl rfl))
      have n6_ := Aside0.mk (below_step (by repeat (first | (with_reducible first | exact HB.out | apply below_alloc | apply pw_below_drewN | apply below_drew1 | refine below_set ?_ (IsS54.ge HI0.out) | refine below_set ?_ GE209.out | refine below_set ?_ GE210.out | refine below_set ?_ GE211.out | refine below_set ?_ GE217.out) | exact HB.out)) hb)
      clear HI0
      clear BK209
      clear BK210
      clear BK211
      clear BK217
      clear HK
      clear HB
      have HI0 := n0_
      have BK209 := n1_
      have BK210 := n2_
      have BK211 := n3_
      have BK217 := n4_
      have HK := n5_
      have HB := n6_
      clear n0_ n1_ n2_ n3_ n4_ n5_ n6_
      (try clear hb)
      (try clear hb2)
      (try clear hk)
      (try clear hi)
      refine hK.out _ _ ⟨(blk_cell BK217.out 0).trans rfl, (blk_cell BK217.out 1).trans rfl, (blk_cell BK209.out 0).trans rfl, (blk_cell BK209.out 1).trans rfl, (blk_cell BK209.out 2).trans rfl, (blk_cell BK210.out 0).trans rfl, (blk_cell BK210.out 1).trans rfl, (blk_cell BK210.out 2).trans rfl⟩ (fun hHeld => ?_)
      clear hK K
      refine norm_ (a' := ?_) ?_ ?_
      rotate_left
      · show Act.put _ (some 21) _ = _
        simp only [Act.put, List.setIfInBounds_toArray, List.set_cons_zero, List.set_cons_succ, i64_w, i32_w]
        rfl
      refine pure_ (i := 7) (N := some 22) (v := ?_) (a' := ?_) #[true, true, true, true, true, true, true, true] rfl rfl (any_of HT_.out (by kernel_rfl)) (fun _ _ _ h => h) (Or.inl ⟨by rfl, ?_⟩) ?_ ?_
      rotate_left
      · intro w'
        go_simp
        with_reducible rfl
      rotate_left
      · simp only [Act.put, List.setIfInBounds_toArray, List.set_cons_zero, List.set_cons_succ, i64_w, i32_w]
        rfl
      refine done_ (done_of HT_.out (by kernel_rfl)) ?_
      have hcz52_0 : w51.cell? ⟨gb210, 0, none⟩ = some (.int .u64 a2_0) := (blk_cell BK210.out 0).trans rfl
      have hcz52_1 : w51.cell? ⟨gb210, 1, none⟩ = some (.int .u64 a2_1) := (blk_cell BK210.out 1).trans rfl
      have hcz52_2 : w51.cell? ⟨gb210, 2, none⟩ = some (.int .i64 a2_2) := (blk_cell BK210.out 2).trans rfl
      have hfz52_0 := blk_frozen BK210.out 0
      have hfz52_1 := blk_frozen BK210.out 1
      have hfz52_2 := blk_frozen BK210.out 2
      have hcz53_0 : w51.cell? ⟨gb217, 0, none⟩ = some (.int .u64 t212) := (blk_cell BK217.out 0).trans rfl
      have hcz53_1 : w51.cell? ⟨gb217, 1, none⟩ = some (.int .u64 t213) := (blk_cell BK217.out 1).trans rfl
      have hfz53_0 := blk_frozen BK217.out 0
      have hfz53_1 := blk_frozen BK217.out 1
      try go_wp2_with (first | ((with_reducible refine gate_callee (f := 35) rfl ?_); refine goesL_ (some 44) rfl rfl Try.func35 (by kernel_rfl) rfl #[.int .u64 t212, .int .u64 t213, .int .u64 (IntKind.u64.wrap (a2_1 + 1))] rfl (by (try simp only [List.map_toArray, List.map_cons, List.map_nil]); first | done | rfl | (simp only [List.length_drop, List.length_take]; rfl)) ?_; (with_reducible refine (bits_Rem64.calls k t212 t213 (IntKind.u64.wrap (a2_1 + 1)) t221 _ A33.out).mono ?_); rintro e w' ⟨rfl, ⟨nd, rfl⟩⟩; refine ⟨_, rfl, ?_⟩))
      go_loopg [9, 10] k (fun kq v9 v10 w' => ∃ (x9_1 : Int) (x10_1 : Int), v9 = .int .u64 x9_1 ∧ v10 = .int .u64 x10_1 ∧ Aside0 (prio_Sampler_counts.l0 kq (IntKind.u64.wrap (a2_1 + 1)) x9_1 x10_1 s0_0 t214 t215 t216 a1_0 a1_1 a1_2 t212 t213 = some (r1, r2, r3, r4, r5, r6)) ∧ Aside0 (kq ≤ k) ∧ Aside0 (w'.heap[gb209]? = some (.cells #[.int .u64 a1_0, .int .u64 a1_1, .int .i64 a1_2] 56 (0, 0))) ∧ Aside0 (w'.heap[gb210]? = some (.cells #[.int .u64 a2_0, .int .u64 a2_1, .int .i64 a2_2] 56 (0, 0))) ∧ Aside0 (w'.heap[gb211]? = some (.cells #[.int .i64 0, .int .u64 0, .int .u64 0] 33 (0, 0))) ∧ Aside0 (w'.heap[gb217]? = some (.cells #[.int .u64 t212, .int .u64 t213] 75 (0, 0))) ∧ Aside0 (IsS54 w0 w' g s0_0 t214 t215 t216) ∧ Aside0 (KeepBut w w' g none) ∧ Aside0 (Below w0.heap.size w0 w'))
      case atStart => exact ⟨(IntKind.u64.wrap (a2_1 + 1)), (t221), (by first | rfl | (simp; done) | (simp [*]; done)), (by first | rfl | (simp; done) | (simp [*]; done)), H', ⟨Nat.le_refl _⟩, ⟨by (with_reducible repeat (first | refine blk_drewN ?_ _ | refine blk_drew ?_ | refine blk_alloc ?_ _)); exact BK209.out⟩, ⟨by (with_reducible repeat (first | refine blk_drewN ?_ _ | refine blk_drew ?_ | refine blk_alloc ?_ _)); exact BK210.out⟩, ⟨by (with_reducible repeat (first | refine blk_drewN ?_ _ | refine blk_drew ?_ | refine blk_alloc ?_ _)); exact BK211.out⟩, ⟨by (with_reducible repeat (first | refine blk_drewN ?_ _ | refine blk_drew ?_ | refine blk_alloc ?_ _)); exact BK217.out⟩, ⟨by repeat (first | (with_reducible first | exact HI0.out | apply IsS54.alloc | apply IsS54.drewN | apply IsS54.drew | apply IsS54.set_1 | apply IsS54.set_2 | apply IsS54.set_3 | refine IsS54.far ?_ NB0_209.out _ | refine IsS54.far ?_ NB0_210.out _ | refine IsS54.far ?_ NB0_211.out _ | refine IsS54.far ?_ NB0_217.out _) | exact HI0.out)⟩, ⟨by repeat (first | (with_reducible first | exact HK.out | apply KeepBut.set_ | apply keep_drewN | apply keep_drew | apply keep_alloc | refine keep_far ?_ GW209.out _ | refine keep_far ?_ GW210.out _ | refine keep_far ?_ GW211.out _ | refine keep_far ?_ GW217.out _) | exact HK.out)⟩, ⟨by repeat (first | (with_reducible first | exact HB.out | apply below_alloc | apply pw_below_drewN | apply below_drew1 | refine below_set ?_ (IsS54.ge HI0.out) | refine below_set ?_ GE209.out | refine below_set ?_ GE210.out | refine below_set ?_ GE211.out | refine below_set ?_ GE217.out) | exact HB.out)⟩⟩
      case round =>
        clear H'
        try clear c1
        try clear c2
        try clear p2
        try clear c3
        try clear c4
        try clear c7
        try clear c8
        try clear c8b0
        try clear c8b1
        try clear c12
        try clear c13
        try clear c14
        try clear c18
        try clear c19
        try clear c20
        try clear c21
        try clear c22
        try clear c28
        try clear c29
        try clear c30
        try clear c31
        try clear c34
        try clear c35
        try clear c37
        try clear c38
        try clear c39
        try clear c43
        try clear c44
        try clear c45
        try clear c46
        try clear hcz15_0
        try clear hcz15_1
        try clear hcz15_2
        try clear hcz22_0
        try clear hcz22_1
        try clear hcz27_0
        try clear hcz27_1
        try clear hcz27_2
        try clear hcz30_0
        try clear hcz30_1
        try clear hcz30_2
        try clear hcz32_0
        try clear hcz32_1
        try clear hcz32_2
        try clear hcz40_0
        try clear hcz40_1
        try clear hcz40_2
        try clear hcz47_0
        try clear hcz47_1
        try clear hcz52_0
        try clear hcz52_1
        try clear hcz52_2
        try clear hcz53_0
        try clear hcz53_1
        try clear hfz15_0
        try clear hfz15_1
        try clear hfz15_2
        try clear hfz22_0
        try clear hfz22_1
        try clear hfz27_0
        try clear hfz27_1
        try clear hfz27_2
        try clear hfz30_0
        try clear hfz30_1
        try clear hfz30_2
        try clear hfz32_0
        try clear hfz32_1
        try clear hfz32_2
        try clear hfz40_0
        try clear hfz40_1
        try clear hfz40_2
        try clear hfz47_0
        try clear hfz47_1
        try clear hfz52_0
        try clear hfz52_1
        try clear hfz52_2
        try clear hfz53_0
        try clear hfz53_1
        obtain ⟨x9_1, x10_1, rfl, rfl, HA, HK1, BK209, BK210, BK211, BK217, HI0, HK, HB⟩ := hrel
        cases gk with
        | zero => exact absurd HA.out (by simp [prio_Sampler_counts.l0])
        | succ k1 =>
          have H := HA.out
          clear HA
          simp only [prio_Sampler_counts.l0] at H
          by_cases c54 : x10_1 = 0
          · rw [if_pos c54] at H
            have c54b0 : (x10_1 == 0) = true := beq_iff_eq.mpr c54
            have c54b1 : (x10_1 != 0) = false := bne_eq_false_iff_eq.mpr c54
            clear c54
            replace H := Option.bind_eq_some_iff.mp H
            obtain ⟨t222, A550, H⟩ := H
            replace H : (if x9_1 = 0 then (none) else (some (a1_2, t222, IntKind.u64.wrap (Int.tdiv (IntKind.u64.wrap (a2_1 + 1)) x9_1), t214, t215, t216))) = some (r1, r2, r3, r4, r5, r6) := H
            have A55 := Aside0.mk A550
            clear A550
            by_cases c56 : x9_1 = 0
            · rw [if_pos c56] at H
              exact absurd H (by simp)
            · rw [if_neg c56] at H
              have c56b0 : (x9_1 == 0) = false := beq_eq_false_iff_ne.mpr c56
              have c56b1 : (x9_1 != 0) = true := bne_iff_ne.mpr c56
              simp only [Option.some.injEq, Prod.mk.injEq] at H
              obtain ⟨rfl, rfl, rfl, rfl, rfl, rfl⟩ := H
              try go_wp2
              have n0_ := Aside0.mk (blk_drew BK209.out)
              have n1_ := Aside0.mk (blk_drew BK210.out)
              have n2_ := Aside0.mk (blk_drew BK211.out)
              have n3_ := Aside0.mk (blk_drew BK217.out)
              have n4_ := Aside0.mk (IsS54.drew HI0.out)
              have n5_ := Aside0.mk (keep_drew HK.out)
              have n6_ := Aside0.mk (below_drew1 HB.out)
              clear BK209
              clear BK210
              clear BK211
              clear BK217
              clear HI0
              clear HK
              clear HB
              have BK209 := n0_
              have BK210 := n1_
              have BK211 := n2_
              have BK217 := n3_
              have HI0 := n4_
              have HK := n5_
              have HB := n6_
              clear n0_ n1_ n2_ n3_ n4_ n5_ n6_
              refine start_ (n := 10) (S := fun w' => w'.cell? ⟨gb209, 0, none⟩ = some (.int .u64 a1_0) ∧ w'.cell? ⟨gb209, 1, none⟩ = some (.int .u64 a1_1) ∧ w'.cell? ⟨gb209, 2, none⟩ = some (.int .i64 a1_2) ∧ w'.cell? ⟨gb217, 0, none⟩ = some (.int .u64 t212) ∧ w'.cell? ⟨gb217, 1, none⟩ = some (.int .u64 t213)) (ds := []) #[false, false, false, false, false, false, false, false, false, false] (by kernel_rfl) rfl rfl ⟨(blk_cell BK209.out 0).trans rfl, (blk_cell BK209.out 1).trans rfl, (blk_cell BK209.out 2).trans rfl, (blk_cell BK217.out 0).trans rfl, (blk_cell BK217.out 1).trans rfl⟩ (fun hHeld => ?_); refine with_tabW prio_Sampler_counts.tab10 prio_Sampler_counts.bits10 (fun HT_ HW_ => ?_)
              generalize wr.drew = w57 at BK209 BK210 BK211 BK217 HI0 HK HB hHeld ⊢
              refine pure_ (i := 0) (N := some 51) (v := ?_) (a' := ?_) #[true, false, false, false, false, false, false, false, false, false] rfl rfl (any_of HT_.out (by kernel_rfl)) (fun _ _ _ h => h) (Or.inl ⟨by rfl, ?_⟩) ?_ ?_
              rotate_left
              · intro w'
                go_simp
                with_reducible rfl
              rotate_left
              · simp only [Act.put, List.setIfInBounds_toArray, List.set_cons_zero, List.set_cons_succ, i64_w, i32_w]
                rfl
              refine pure_ (i := 3) (N := some 54) (v := ?_) (a' := ?_) #[true, false, false, true, false, false, false, false, false, false] rfl rfl (any_of HT_.out (by kernel_rfl)) (fun _ _ _ h => h) (Or.inl ⟨by rfl, ?_⟩) ?_ ?_
              rotate_left
              · intro w'
                go_simp
                with_reducible rfl
              rotate_left
              · simp only [Act.put, List.setIfInBounds_toArray, List.set_cons_zero, List.set_cons_succ, i64_w, i32_w]
                rfl
              refine pure_ (i := 5) (N := some 56) (v := ?_) (a' := ?_) #[true, false, false, true, false, true, false, false, false, false] rfl rfl (any_of HT_.out (by kernel_rfl)) (fun _ _ _ h => h) (Or.inl ⟨by rfl, ?_⟩) ?_ ?_
              rotate_left
              · intro w'
                go_simp
                with_reducible rfl
              rotate_left
              · simp only [Act.put, List.setIfInBounds_toArray, List.set_cons_zero, List.set_cons_succ, i64_w, i32_w]
                rfl
              refine pure_ (i := 6) (N := some 57) (v := ?_) (a' := ?_) #[true, false, false, true, false, true, true, false, false, false] rfl rfl (any_of HT_.out (by kernel_rfl)) (fun _ _ _ h => h) (Or.inl ⟨by rfl, ?_⟩) ?_ ?_
              rotate_left
              · intro w'
                go_simp
                with_reducible rfl
              rotate_left
              · simp only [Act.put, List.setIfInBounds_toArray, List.set_cons_zero, List.set_cons_succ, i64_w, i32_w]
                rfl
              refine pure_ (i := 7) (N := some 58) (v := ?_) (a' := ?_) #[true, false, false, true, false, true, true, true, false, false] rfl rfl (any_of HT_.out (by kernel_rfl)) (fun _ _ _ h => h) (Or.inl ⟨by rfl, ?_⟩) ?_ ?_
              rotate_left
              · intro w'
                go_simp
                with_reducible rfl
              rotate_left
              · simp only [Act.put, List.setIfInBounds_toArray, List.set_cons_zero, List.set_cons_succ, i64_w, i32_w]
                rfl
              refine take_ (i := 1) (N := some 52) (v := ?_) (a' := ?_) #[true, true, false, true, false, true, true, true, false, false] rfl rfl (take_ofW HT_.out HW_.out (by kernel_rfl)) (fun _ _ _ h => h) (Or.inl ⟨by rfl, ?_⟩) hHeld ?_ ?_
              rotate_left
              · rintro w' ⟨s0, s1, s2, s3, s4⟩
                go_simp
                with_reducible rfl
              rotate_left
              · simp only [Act.put, List.setIfInBounds_toArray, List.set_cons_zero, List.set_cons_succ, i64_w, i32_w]
                rfl
              refine take_ (i := 2) (N := some 53) (v := ?_) (a' := ?_) #[true, true, true, true, false, true, true, true, false, false] rfl rfl (take_ofW HT_.out HW_.out (by kernel_rfl)) (fun _ _ _ h => h) (Or.inl ⟨by rfl, ?_⟩) hHeld ?_ ?_
              rotate_left
              · rintro w' ⟨s0, s1, s2, s3, s4⟩
                go_simp
                with_reducible rfl
              rotate_left
              · simp only [Act.put, List.setIfInBounds_toArray, List.set_cons_zero, List.set_cons_succ, i64_w, i32_w]
                rfl
              refine one_ (i := 4) (N := some 55) #[true, true, true, true, true, true, true, true, false, false] rfl rfl (one_of HT_.out (by kernel_rfl)) (by decide) (fun K hK => ?_)
              refine goes_ Try.func36 (by kernel_rfl) rfl #[.agg #[.int .u64 t212, .int .u64 t213], .int .u64 x9_1] (by rfl) rfl rfl (by (try simp only [List.map_toArray, List.map_cons, List.map_nil]); first | done | rfl | (simp only [List.length_drop, List.length_take]; rfl)) ?_
              with_reducible refine (prio_wide_over.calls k1 t212 t213 x9_1 t222 _ A55.out).mono ?_
              rintro e w58 ⟨rfl, hb⟩
              refine ⟨_, rfl, ?_⟩
              have n0_ := Aside0.mk (blk_below (g := gb209) (o := .cells #[.int .u64 a1_0, .int .u64 a1_1, .int .i64 a1_2] 56 (0, 0)) (by (with_reducible repeat (first | refine blk_drewN ?_ _ | refine blk_drew ?_ | refine blk_alloc ?_ _)); exact BK209.out) hb)
              have n1_ := Aside0.mk (blk_below (g := gb210) (o := .cells #[.int .u64 a2_0, .int .u64 a2_1, .int .i64 a2_2] 56 (0, 0)) (by (with_reducible repeat (first | refine blk_drewN ?_ _ | refine blk_drew ?_ | refine blk_alloc ?_ _)); exact BK210.out) hb)
              have n2_ := Aside0.mk (blk_below (g := gb211) (o := .cells #[.int .i64 0, .int .u64 0, .int .u64 0] 33 (0, 0)) (by (with_reducible repeat (first | refine blk_drewN ?_ _ | refine blk_drew ?_ | refine blk_alloc ?_ _)); exact BK211.out) hb)
              have n3_ := Aside0.mk (blk_below (g := gb217) (o := .cells #[.int .u64 t212, .int .u64 t213] 75 (0, 0)) (by (with_reducible repeat (first | refine blk_drewN ?_ _ | refine blk_drew ?_ | refine blk_alloc ?_ _)); exact BK217.out) hb)
              have n4_ := Aside0.mk (IsS54.below (by repeat (first | (with_reducible first | exact HI0.out | apply IsS54.alloc | apply IsS54.drewN | apply IsS54.drew | apply IsS54.set_1 | apply IsS54.set_2 | apply IsS54.set_3 | refine IsS54.far ?_ NB0_209.out _ | refine IsS54.far ?_ NB0_210.out _ | refine IsS54.far ?_ NB0_211.out _ | refine IsS54.far ?_ NB0_217.out _) | exact HI0.out)) hb)
              have n5_ := Aside0.mk (KeepBut.trans (by repeat (first | (with_reducible first | exact HK.out | apply KeepBut.set_ | apply keep_drewN | apply keep_drew | apply keep_alloc | refine keep_far ?_ GW209.out _ | refine keep_far ?_ GW210.out _ | refine keep_far ?_ GW211.out _ | refine keep_far ?_ GW217.out _) | exact HK.out)) (KeepBut.of_below hb g none) (.inl rfl))
              have n6_ := Aside0.mk (below_step (by repeat (first | (with_reducible first | exact HB.out | apply below_alloc | apply pw_below_drewN | apply below_drew1 | refine below_set ?_ (IsS54.ge HI0.out) | refine below_set ?_ GE209.out | refine below_set ?_ GE210.out | refine below_set ?_ GE211.out | refine below_set ?_ GE217.out) | exact HB.out)) hb)
              clear BK209
              clear BK210
              clear BK211
              clear BK217
              clear HI0
              clear HK
              clear HB
              have BK209 := n0_
              have BK210 := n1_
              have BK211 := n2_
              have BK217 := n3_
              have HI0 := n4_
              have HK := n5_
              have HB := n6_
              clear n0_ n1_ n2_ n3_ n4_ n5_ n6_
              (try clear hb)
              (try clear hb2)
              (try clear hk)
              (try clear hi)
              refine hK.out _ _ ⟨(blk_cell BK209.out 0).trans rfl, (blk_cell BK209.out 1).trans rfl, (blk_cell BK209.out 2).trans rfl, (blk_cell BK217.out 0).trans rfl, (blk_cell BK217.out 1).trans rfl⟩ (fun hHeld => ?_)
              clear hK K
              refine norm_ (a' := ?_) ?_ ?_
              rotate_left
              · show Act.put _ (some 55) _ = _
                simp only [Act.put, List.setIfInBounds_toArray, List.set_cons_zero, List.set_cons_succ, i64_w, i32_w]
                rfl
              refine pure_ (i := 8) (N := some 59) (v := ?_) (a' := ?_) #[true, true, true, true, true, true, true, true, true, false] rfl rfl (any_of HT_.out (by kernel_rfl)) (fun _ _ _ h => h) (Or.inl ⟨by rfl, ?_⟩) ?_ ?_
              rotate_left
              · intro w'
                go_simp
                with_reducible rfl
              rotate_left
              · simp only [Act.put, List.setIfInBounds_toArray, List.set_cons_zero, List.set_cons_succ, i64_w, i32_w]
                rfl
              refine one_ (i := 9) (N := none) #[true, true, true, true, true, true, true, true, true, true] rfl rfl (one_of HT_.out (by kernel_rfl)) (by decide) (fun K hK => ?_)
              have hs59 : w58.cell? ⟨gb211, 0, none⟩ = some (.int .i64 0) := (blk_cell BK211.out 0).trans rfl
              have hfs59 := blk_frozen BK211.out 0
              have hns59_0 := NB209_211.out
              have hns59_1 := NB210_211.out
              have hns59_3 := NB217_211.out
              have hms59_0 := NB211_209.out
              have hms59_1 := NB211_210.out
              have hms59_3 := NB211_217.out
              have hs60 : w58.cell? ⟨gb211, 1, none⟩ = some (.int .u64 0) := (blk_cell BK211.out 1).trans rfl
              have hfs60 := blk_frozen BK211.out 1
              have hns60_0 := NB209_211.out
              have hns60_1 := NB210_211.out
              have hns60_3 := NB217_211.out
              have hms60_0 := NB211_209.out
              have hms60_1 := NB211_210.out
              have hms60_3 := NB211_217.out
              have hs61 : w58.cell? ⟨gb211, 2, none⟩ = some (.int .u64 0) := (blk_cell BK211.out 2).trans rfl
              have hfs61 := blk_frozen BK211.out 2
              have hns61_0 := NB209_211.out
              have hns61_1 := NB210_211.out
              have hns61_3 := NB217_211.out
              have hms61_0 := NB211_209.out
              have hms61_1 := NB211_210.out
              have hms61_3 := NB211_217.out
              refine skip_ (w1 := ?_) (by rfl) rfl ?_ ?_
              rotate_left
              · go_simp
                rfl
              refine hK.out _ _ ⟨((cell_far (p := ⟨gb211, _, none⟩) NB209_211.out _).trans (((cell_far (p := ⟨gb211, _, none⟩) NB209_211.out _).trans (((cell_far (p := ⟨gb211, _, none⟩) NB209_211.out _).trans (hHeld.1)))))), ((cell_far (p := ⟨gb211, _, none⟩) NB209_211.out _).trans (((cell_far (p := ⟨gb211, _, none⟩) NB209_211.out _).trans (((cell_far (p := ⟨gb211, _, none⟩) NB209_211.out _).trans (hHeld.2.1)))))), ((cell_far (p := ⟨gb211, _, none⟩) NB209_211.out _).trans (((cell_far (p := ⟨gb211, _, none⟩) NB209_211.out _).trans (((cell_far (p := ⟨gb211, _, none⟩) NB209_211.out _).trans (hHeld.2.2.1)))))), ((cell_far (p := ⟨gb211, _, none⟩) NB217_211.out _).trans (((cell_far (p := ⟨gb211, _, none⟩) NB217_211.out _).trans (((cell_far (p := ⟨gb211, _, none⟩) NB217_211.out _).trans (hHeld.2.2.2.1)))))), ((cell_far (p := ⟨gb211, _, none⟩) NB217_211.out _).trans (((cell_far (p := ⟨gb211, _, none⟩) NB217_211.out _).trans (((cell_far (p := ⟨gb211, _, none⟩) NB217_211.out _).trans (hHeld.2.2.2.2))))))⟩ (fun hHeld => ?_)
              clear hK K
              refine done_ (done_of HT_.out (by kernel_rfl)) ?_
              try go_wp2
              refine bodyPost_ret (results_cell_row rfl _ _ gb211 33 #[.int .i64 a1_2, .int .u64 t222, .int .u64 (IntKind.u64.wrap (Int.tdiv (IntKind.u64.wrap (a2_1 + 1)) x9_1))] (0, 0) _ rfl (by (with_reducible repeat (first | refine blk_drewN ?_ _ | refine blk_drew ?_ | refine blk_alloc ?_ _)); refine blk_put (cs := #[.int .i64 a1_2, .int .u64 t222, .int .u64 0]) ?_ 2 _ rfl; (with_reducible repeat (first | refine blk_drewN ?_ _ | refine blk_drew ?_ | refine blk_alloc ?_ _)); refine blk_put (cs := #[.int .i64 a1_2, .int .u64 0, .int .u64 0]) ?_ 1 _ rfl; (with_reducible repeat (first | refine blk_drewN ?_ _ | refine blk_drew ?_ | refine blk_alloc ?_ _)); refine blk_put (cs := #[.int .i64 0, .int .u64 0, .int .u64 0]) ?_ 0 _ rfl; (with_reducible repeat (first | refine blk_drewN ?_ _ | refine blk_drew ?_ | refine blk_alloc ?_ _)); exact BK211.out) Try.underlying33 rfl (by kernel_rfl)) rfl ?_
              exact ⟨by first | rfl | (simp [errW_none, errW_some] <;> rfl) | (simp [*, errW_none, errW_some] <;> rfl), by repeat (first | (with_reducible first | exact HI0.out | apply IsS54.alloc | apply IsS54.drewN | apply IsS54.drew | apply IsS54.set_1 | apply IsS54.set_2 | apply IsS54.set_3 | refine IsS54.far ?_ NB0_209.out _ | refine IsS54.far ?_ NB0_210.out _ | refine IsS54.far ?_ NB0_211.out _ | refine IsS54.far ?_ NB0_217.out _) | exact HI0.out), by repeat (first | (with_reducible first | exact HB.out | apply below_alloc | apply pw_below_drewN | apply below_drew1 | refine below_set ?_ (IsS54.ge HI0.out) | refine below_set ?_ GE209.out | refine below_set ?_ GE210.out | refine below_set ?_ GE211.out | refine below_set ?_ GE217.out) | exact HB.out), by repeat (first | (with_reducible first | exact HK.out | apply KeepBut.set_ | apply keep_drewN | apply keep_drew | apply keep_alloc | refine keep_far ?_ GW209.out _ | refine keep_far ?_ GW210.out _ | refine keep_far ?_ GW211.out _ | refine keep_far ?_ GW217.out _) | exact HK.out)⟩
          · rw [if_neg c54] at H
            have c54b0 : (x10_1 == 0) = false := beq_eq_false_iff_ne.mpr c54
            have c54b1 : (x10_1 != 0) = true := bne_iff_ne.mpr c54
            have H' := Aside0.mk H
            clear H
            try go_wp2
            have n0_ := Aside0.mk (blk_drew BK209.out)
            have n1_ := Aside0.mk (blk_drew BK210.out)
            have n2_ := Aside0.mk (blk_drew BK211.out)
            have n3_ := Aside0.mk (blk_drew BK217.out)
            have n4_ := Aside0.mk (IsS54.drew HI0.out)
            have n5_ := Aside0.mk (keep_drew HK.out)
            have n6_ := Aside0.mk (below_drew1 HB.out)
            clear BK209
            clear BK210
            clear BK211
            clear BK217
            clear HI0
            clear HK
            clear HB
            have BK209 := n0_
            have BK210 := n1_
            have BK211 := n2_
            have BK217 := n3_
            have HI0 := n4_
            have HK := n5_
            have HB := n6_
            clear n0_ n1_ n2_ n3_ n4_ n5_ n6_
            refine start_ (n := 6) (S := fun w' => True) (ds := []) #[false, false, false, false, false, false] (by kernel_rfl) rfl rfl trivial (fun hHeld => ?_)
            generalize wr.drew = w62 at BK209 BK210 BK211 BK217 HI0 HK HB hHeld ⊢
            refine pure_ (i := 0) (N := some 47) (v := ?_) (a' := ?_) #[true, false, false, false, false, false] rfl rfl (by kernel_rfl) (fun _ _ _ h => h) (Or.inl ⟨by rfl, ?_⟩) ?_ ?_
            rotate_left
            · intro w'
              go_simp
              with_reducible rfl
            rotate_left
            · simp only [Act.put, List.setIfInBounds_toArray, List.set_cons_zero, List.set_cons_succ, i64_w, i32_w]
              rfl
            refine pure_ (i := 1) (N := some 48) (v := ?_) (a' := ?_) #[true, true, false, false, false, false] rfl rfl (by kernel_rfl) (fun _ _ _ h => h) (Or.inl ⟨by rfl, ?_⟩) ?_ ?_
            rotate_left
            · intro w'
              go_simp
              with_reducible rfl
            rotate_left
            · simp only [Act.put, List.setIfInBounds_toArray, List.set_cons_zero, List.set_cons_succ, i64_w, i32_w]
              rfl
            refine pure_ (i := 2) (N := some 49) (v := ?_) (a' := ?_) #[true, true, true, false, false, false] rfl rfl (by kernel_rfl) (fun _ _ _ h => h) (Or.inl ⟨by rfl, ?_⟩) ?_ ?_
            rotate_left
            · intro w'
              go_simp
              with_reducible rfl
            rotate_left
            · simp only [Act.put, List.setIfInBounds_toArray, List.set_cons_zero, List.set_cons_succ, i64_w, i32_w]
              rfl
            refine pure_ (i := 3) (N := some 50) (v := ?_) (a' := ?_) #[true, true, true, true, false, false] rfl rfl (by kernel_rfl) (fun _ _ _ h => h) (Or.inl ⟨by rfl, ?_⟩) ?_ ?_
            rotate_left
            · intro w'
              go_simp
              with_reducible rfl
            rotate_left
            · simp only [Act.put, List.setIfInBounds_toArray, List.set_cons_zero, List.set_cons_succ, i64_w, i32_w]
              rfl
            refine pure_ (i := 4) (N := some 9) (v := ?_) (a' := ?_) #[true, true, true, true, true, false] rfl rfl (by kernel_rfl) (fun _ _ _ h => h) (Or.inl ⟨by rfl, ?_⟩) ?_ ?_
            rotate_left
            · intro w'
              go_simp
              with_reducible rfl
            rotate_left
            · simp only [Act.put, List.setIfInBounds_toArray, List.set_cons_zero, List.set_cons_succ, i64_w, i32_w]
              rfl
            refine pure_ (i := 5) (N := some 10) (v := ?_) (a' := ?_) #[true, true, true, true, true, true] rfl rfl (by kernel_rfl) (fun _ _ _ h => h) (Or.inl ⟨by rfl, ?_⟩) ?_ ?_
            rotate_left
            · intro w'
              go_simp
              with_reducible rfl
            rotate_left
            · simp only [Act.put, List.setIfInBounds_toArray, List.set_cons_zero, List.set_cons_succ, i64_w, i32_w]
              rfl
            refine done_ (by kernel_rfl) ?_
            try go_wp2
            go_roundg k1
            case measure => have := HK1.out; omega
            case rel => exact ⟨(x10_1), (Int.tmod x9_1 x10_1), (by first | rfl | (simp; done) | (simp [*]; done)), (by first | rfl | (simp; done) | (simp [*]; done)), H', ⟨by have := HK1.out; omega⟩, ⟨by (with_reducible repeat (first | refine blk_drewN ?_ _ | refine blk_drew ?_ | refine blk_alloc ?_ _)); exact BK209.out⟩, ⟨by (with_reducible repeat (first | refine blk_drewN ?_ _ | refine blk_drew ?_ | refine blk_alloc ?_ _)); exact BK210.out⟩, ⟨by (with_reducible repeat (first | refine blk_drewN ?_ _ | refine blk_drew ?_ | refine blk_alloc ?_ _)); exact BK211.out⟩, ⟨by (with_reducible repeat (first | refine blk_drewN ?_ _ | refine blk_drew ?_ | refine blk_alloc ?_ _)); exact BK217.out⟩, ⟨by repeat (first | (with_reducible first | exact HI0.out | apply IsS54.alloc | apply IsS54.drewN | apply IsS54.drew | apply IsS54.set_1 | apply IsS54.set_2 | apply IsS54.set_3 | refine IsS54.far ?_ NB0_209.out _ | refine IsS54.far ?_ NB0_210.out _ | refine IsS54.far ?_ NB0_211.out _ | refine IsS54.far ?_ NB0_217.out _) | exact HI0.out)⟩, ⟨by repeat (first | (with_reducible first | exact HK.out | apply KeepBut.set_ | apply keep_drewN | apply keep_drew | apply keep_alloc | refine keep_far ?_ GW209.out _ | refine keep_far ?_ GW210.out _ | refine keep_far ?_ GW211.out _ | refine keep_far ?_ GW217.out _) | exact HK.out)⟩, ⟨by repeat (first | (with_reducible first | exact HB.out | apply below_alloc | apply pw_below_drewN | apply below_drew1 | refine below_set ?_ (IsS54.ge HI0.out) | refine below_set ?_ GE209.out | refine below_set ?_ GE210.out | refine below_set ?_ GE211.out | refine below_set ?_ GE217.out) | exact HB.out)⟩⟩
  · replace c7 := Bool.eq_false_iff.mpr c7
    subst c7
    have H1 : (some (a1_2, a1_0, 1, t214, t215, t216)) = some (r1, r2, r3, r4, r5, r6) := by rw [if_neg (show ¬ (false = true) by decide)] at H; exact H
    clear H
    have H := H1
    clear H1
    simp only [Option.some.injEq, Prod.mk.injEq] at H
    obtain ⟨rfl, rfl, rfl, rfl, rfl, rfl⟩ := H
    go_enter Try.func22, Try.ntmps22
    try go_wp2_with (first | ((with_reducible refine gate_dst (N := 4) rfl ?_); refine box_event ?hg (N := 4) ?hd (cs := #[.int .u64 a1_0, .int .u64 a1_1, .int .i64 a1_2]) (t := 56) ?hr ?_; (case hd => rfl); (case hg => rfl); (case hr => first | (go_simp; done) | (go_simp; rfl)); intro gb209 hg w63 hbox hb; have n0_ := Aside0.mk (IsS54.below (by repeat (first | (with_reducible first | exact HI0.out | apply IsS54.alloc | apply IsS54.drewN | apply IsS54.drew | apply IsS54.set_1 | apply IsS54.set_2 | apply IsS54.set_3) | exact HI0.out)) hb); have n1_ := Aside0.mk (KeepBut.trans (by repeat (first | (with_reducible first | exact HK.out | apply KeepBut.set_ | apply keep_drewN | apply keep_drew | apply keep_alloc) | exact HK.out)) (KeepBut.of_below hb g none) (.inl rfl)); have n2_ := Aside0.mk (below_step (by repeat (first | (with_reducible first | exact HB.out | apply below_alloc | apply pw_below_drewN | apply below_drew1 | refine below_set ?_ (IsS54.ge HI0.out)) | exact HB.out)) hb); have n3_ := Aside0.mk (hbox); have n4_ := Aside0.mk ((by rw [hg]; exact (keep_size (w := w) (g := g) (row := none) (by repeat (first | (with_reducible first | exact HK.out | apply KeepBut.set_ | apply keep_drewN | apply keep_drew | apply keep_alloc) | exact HK.out))) : w.heap.size ≤ gb209)); have n5_ := Aside0.mk ((Nat.le_trans HW0.out (by rw [hg]; exact (keep_size (w := w) (g := g) (row := none) (by repeat (first | (with_reducible first | exact HK.out | apply KeepBut.set_ | apply keep_drewN | apply keep_drew | apply keep_alloc) | exact HK.out))) : w.heap.size ≤ gb209) : w0.heap.size ≤ gb209)); have n6_ := Aside0.mk ((by rw [hg]; exact Nat.ne_of_lt (IsS54.lt (show IsS54 w0 _ g s0_0 s0_1 s0_2 s0_3 from by repeat (first | (with_reducible first | exact HI0.out | apply IsS54.alloc | apply IsS54.drewN | apply IsS54.drew | apply IsS54.set_1 | apply IsS54.set_2 | apply IsS54.set_3) | exact HI0.out))) : g ≠ gb209)); have n7_ := Aside0.mk ((by rw [hg]; exact Nat.ne_of_gt (IsS54.lt (show IsS54 w0 _ g s0_0 s0_1 s0_2 s0_3 from by repeat (first | (with_reducible first | exact HI0.out | apply IsS54.alloc | apply IsS54.drewN | apply IsS54.drew | apply IsS54.set_1 | apply IsS54.set_2 | apply IsS54.set_3) | exact HI0.out))) : gb209 ≠ g)); clear HI0; clear HK; clear HB; have HI0 := n0_; have HK := n1_; have HB := n2_; have BK209 := n3_; have GW209 := n4_; have GE209 := n5_; have NB0_209 := n6_; have NB209_0 := n7_; clear n0_ n1_ n2_ n3_ n4_ n5_ n6_ n7_; clear hb hbox hg) | ((with_reducible refine gate_dst (N := 5) rfl ?_); refine box_event ?hg (N := 5) ?hd (cs := #[.int .u64 a2_0, .int .u64 a2_1, .int .i64 a2_2]) (t := 56) ?hr ?_; (case hd => rfl); (case hg => rfl); (case hr => first | (go_simp; done) | (go_simp; rfl)); intro gb210 hg w64 hbox hb; have n0_ := Aside0.mk (IsS54.below (by repeat (first | (with_reducible first | exact HI0.out | apply IsS54.alloc | apply IsS54.drewN | apply IsS54.drew | apply IsS54.set_1 | apply IsS54.set_2 | apply IsS54.set_3 | refine IsS54.far ?_ NB0_209.out _) | exact HI0.out)) hb); have n1_ := Aside0.mk (blk_below (g := gb209) (o := .cells #[.int .u64 a1_0, .int .u64 a1_1, .int .i64 a1_2] 56 (0, 0)) (by (with_reducible repeat (first | refine blk_drewN ?_ _ | refine blk_drew ?_ | refine blk_alloc ?_ _)); exact BK209.out) hb); have n2_ := Aside0.mk (KeepBut.trans (by repeat (first | (with_reducible first | exact HK.out | apply KeepBut.set_ | apply keep_drewN | apply keep_drew | apply keep_alloc | refine keep_far ?_ GW209.out _) | exact HK.out)) (KeepBut.of_below hb g none) (.inl rfl)); have n3_ := Aside0.mk (below_step (by repeat (first | (with_reducible first | exact HB.out | apply below_alloc | apply pw_below_drewN | apply below_drew1 | refine below_set ?_ (IsS54.ge HI0.out) | refine below_set ?_ GE209.out) | exact HB.out)) hb); have n4_ := Aside0.mk (hbox); have n5_ := Aside0.mk ((by rw [hg]; exact (keep_size (w := w) (g := g) (row := none) (by repeat (first | (with_reducible first | exact HK.out | apply KeepBut.set_ | apply keep_drewN | apply keep_drew | apply keep_alloc | refine keep_far ?_ GW209.out _) | exact HK.out))) : w.heap.size ≤ gb210)); have n6_ := Aside0.mk ((Nat.le_trans HW0.out (by rw [hg]; exact (keep_size (w := w) (g := g) (row := none) (by repeat (first | (with_reducible first | exact HK.out | apply KeepBut.set_ | apply keep_drewN | apply keep_drew | apply keep_alloc | refine keep_far ?_ GW209.out _) | exact HK.out))) : w.heap.size ≤ gb210) : w0.heap.size ≤ gb210)); have n7_ := Aside0.mk ((by rw [hg]; exact Nat.ne_of_lt (blk_lt (g := gb209) (o := .cells #[.int .u64 a1_0, .int .u64 a1_1, .int .i64 a1_2] 56 (0, 0)) (by (with_reducible repeat (first | refine blk_drewN ?_ _ | refine blk_drew ?_ | refine blk_alloc ?_ _)); exact BK209.out)) : gb209 ≠ gb210)); have n8_ := Aside0.mk ((by rw [hg]; exact Nat.ne_of_gt (blk_lt (g := gb209) (o := .cells #[.int .u64 a1_0, .int .u64 a1_1, .int .i64 a1_2] 56 (0, 0)) (by (with_reducible repeat (first | refine blk_drewN ?_ _ | refine blk_drew ?_ | refine blk_alloc ?_ _)); exact BK209.out)) : gb210 ≠ gb209)); have n9_ := Aside0.mk ((by rw [hg]; exact Nat.ne_of_lt (IsS54.lt (show IsS54 w0 _ g s0_0 s0_1 s0_2 s0_3 from by repeat (first | (with_reducible first | exact HI0.out | apply IsS54.alloc | apply IsS54.drewN | apply IsS54.drew | apply IsS54.set_1 | apply IsS54.set_2 | apply IsS54.set_3 | refine IsS54.far ?_ NB0_209.out _) | exact HI0.out))) : g ≠ gb210)); have n10_ := Aside0.mk ((by rw [hg]; exact Nat.ne_of_gt (IsS54.lt (show IsS54 w0 _ g s0_0 s0_1 s0_2 s0_3 from by repeat (first | (with_reducible first | exact HI0.out | apply IsS54.alloc | apply IsS54.drewN | apply IsS54.drew | apply IsS54.set_1 | apply IsS54.set_2 | apply IsS54.set_3 | refine IsS54.far ?_ NB0_209.out _) | exact HI0.out))) : gb210 ≠ g)); clear HI0; clear BK209; clear HK; clear HB; have HI0 := n0_; have BK209 := n1_; have HK := n2_; have HB := n3_; have BK210 := n4_; have GW210 := n5_; have GE210 := n6_; have NB209_210 := n7_; have NB210_209 := n8_; have NB0_210 := n9_; have NB210_0 := n10_; clear n0_ n1_ n2_ n3_ n4_ n5_ n6_ n7_ n8_ n9_ n10_; clear hb hbox hg) | ((with_reducible refine gate_dst (N := 6) rfl ?_); refine box_event ?hg (N := 6) ?hd (cs := #[.int .i64 0, .int .u64 0, .int .u64 0]) (t := 33) ?hr ?_; (case hd => rfl); (case hg => rfl); (case hr => first | (go_simp; done) | (go_simp; rfl)); intro gb211 hg w65 hbox hb; have n0_ := Aside0.mk (IsS54.below (by repeat (first | (with_reducible first | exact HI0.out | apply IsS54.alloc | apply IsS54.drewN | apply IsS54.drew | apply IsS54.set_1 | apply IsS54.set_2 | apply IsS54.set_3 | refine IsS54.far ?_ NB0_209.out _ | refine IsS54.far ?_ NB0_210.out _) | exact HI0.out)) hb); have n1_ := Aside0.mk (blk_below (g := gb209) (o := .cells #[.int .u64 a1_0, .int .u64 a1_1, .int .i64 a1_2] 56 (0, 0)) (by (with_reducible repeat (first | refine blk_drewN ?_ _ | refine blk_drew ?_ | refine blk_alloc ?_ _)); exact BK209.out) hb); have n2_ := Aside0.mk (blk_below (g := gb210) (o := .cells #[.int .u64 a2_0, .int .u64 a2_1, .int .i64 a2_2] 56 (0, 0)) (by (with_reducible repeat (first | refine blk_drewN ?_ _ | refine blk_drew ?_ | refine blk_alloc ?_ _)); exact BK210.out) hb); have n3_ := Aside0.mk (KeepBut.trans (by repeat (first | (with_reducible first | exact HK.out | apply KeepBut.set_ | apply keep_drewN | apply keep_drew | apply keep_alloc | refine keep_far ?_ GW209.out _ | refine keep_far ?_ GW210.out _) | exact HK.out)) (KeepBut.of_below hb g none) (.inl rfl)); have n4_ := Aside0.mk (below_step (by repeat (first | (with_reducible first | exact HB.out | apply below_alloc | apply pw_below_drewN | apply below_drew1 | refine below_set ?_ (IsS54.ge HI0.out) | refine below_set ?_ GE209.out | refine below_set ?_ GE210.out) | exact HB.out)) hb); have n5_ := Aside0.mk (hbox); have n6_ := Aside0.mk ((by rw [hg]; exact (keep_size (w := w) (g := g) (row := none) (by repeat (first | (with_reducible first | exact HK.out | apply KeepBut.set_ | apply keep_drewN | apply keep_drew | apply keep_alloc | refine keep_far ?_ GW209.out _ | refine keep_far ?_ GW210.out _) | exact HK.out))) : w.heap.size ≤ gb211)); have n7_ := Aside0.mk ((Nat.le_trans HW0.out (by rw [hg]; exact (keep_size (w := w) (g := g) (row := none) (by repeat (first | (with_reducible first | exact HK.out | apply KeepBut.set_ | apply keep_drewN | apply keep_drew | apply keep_alloc | refine keep_far ?_ GW209.out _ | refine keep_far ?_ GW210.out _) | exact HK.out))) : w.heap.size ≤ gb211) : w0.heap.size ≤ gb211)); have n8_ := Aside0.mk ((by rw [hg]; exact Nat.ne_of_lt (blk_lt (g := gb209) (o := .cells #[.int .u64 a1_0, .int .u64 a1_1, .int .i64 a1_2] 56 (0, 0)) (by (with_reducible repeat (first | refine blk_drewN ?_ _ | refine blk_drew ?_ | refine blk_alloc ?_ _)); exact BK209.out)) : gb209 ≠ gb211)); have n9_ := Aside0.mk ((by rw [hg]; exact Nat.ne_of_gt (blk_lt (g := gb209) (o := .cells #[.int .u64 a1_0, .int .u64 a1_1, .int .i64 a1_2] 56 (0, 0)) (by (with_reducible repeat (first | refine blk_drewN ?_ _ | refine blk_drew ?_ | refine blk_alloc ?_ _)); exact BK209.out)) : gb211 ≠ gb209)); have n10_ := Aside0.mk ((by rw [hg]; exact Nat.ne_of_lt (blk_lt (g := gb210) (o := .cells #[.int .u64 a2_0, .int .u64 a2_1, .int .i64 a2_2] 56 (0, 0)) (by (with_reducible repeat (first | refine blk_drewN ?_ _ | refine blk_drew ?_ | refine blk_alloc ?_ _)); exact BK210.out)) : gb210 ≠ gb211)); have n11_ := Aside0.mk ((by rw [hg]; exact Nat.ne_of_gt (blk_lt (g := gb210) (o := .cells #[.int .u64 a2_0, .int .u64 a2_1, .int .i64 a2_2] 56 (0, 0)) (by (with_reducible repeat (first | refine blk_drewN ?_ _ | refine blk_drew ?_ | refine blk_alloc ?_ _)); exact BK210.out)) : gb211 ≠ gb210)); have n12_ := Aside0.mk ((by rw [hg]; exact Nat.ne_of_lt (IsS54.lt (show IsS54 w0 _ g s0_0 s0_1 s0_2 s0_3 from by repeat (first | (with_reducible first | exact HI0.out | apply IsS54.alloc | apply IsS54.drewN | apply IsS54.drew | apply IsS54.set_1 | apply IsS54.set_2 | apply IsS54.set_3 | refine IsS54.far ?_ NB0_209.out _ | refine IsS54.far ?_ NB0_210.out _) | exact HI0.out))) : g ≠ gb211)); have n13_ := Aside0.mk ((by rw [hg]; exact Nat.ne_of_gt (IsS54.lt (show IsS54 w0 _ g s0_0 s0_1 s0_2 s0_3 from by repeat (first | (with_reducible first | exact HI0.out | apply IsS54.alloc | apply IsS54.drewN | apply IsS54.drew | apply IsS54.set_1 | apply IsS54.set_2 | apply IsS54.set_3 | refine IsS54.far ?_ NB0_209.out _ | refine IsS54.far ?_ NB0_210.out _) | exact HI0.out))) : gb211 ≠ g)); clear HI0; clear BK209; clear BK210; clear HK; clear HB; have HI0 := n0_; have BK209 := n1_; have BK210 := n2_; have HK := n3_; have HB := n4_; have BK211 := n5_; have GW211 := n6_; have GE211 := n7_; have NB209_211 := n8_; have NB211_209 := n9_; have NB210_211 := n10_; have NB211_210 := n11_; have NB0_211 := n12_; have NB211_0 := n13_; clear n0_ n1_ n2_ n3_ n4_ n5_ n6_ n7_ n8_ n9_ n10_ n11_ n12_ n13_; clear hb hbox hg; have hnb66 := NB210_209.out; have hnc66 := NB209_210.out; have hnb67 := NB210_211.out; have hnc67 := NB211_210.out; have hnb68 := NB210_0.out; have hnc68 := NB0_210.out; have hcz69_0 : w65.cell? ⟨gb210, 0, none⟩ = some (.int .u64 a2_0) := (blk_cell BK210.out 0).trans rfl; have hcz69_1 : w65.cell? ⟨gb210, 1, none⟩ = some (.int .u64 a2_1) := (blk_cell BK210.out 1).trans rfl; have hcz69_2 : w65.cell? ⟨gb210, 2, none⟩ = some (.int .i64 a2_2) := (blk_cell BK210.out 2).trans rfl; have hfz69_0 := blk_frozen BK210.out 0; have hfz69_1 := blk_frozen BK210.out 1; have hfz69_2 := blk_frozen BK210.out 2) | ((with_reducible refine gate_callee (f := 34) rfl ?_); refine goesL_ (some 14) rfl rfl Try.func34 (by kernel_rfl) rfl #[.pointer (some ⟨g, 0, none⟩), .int .u64 a2_0] rfl (by (try simp only [List.map_toArray, List.map_cons, List.map_nil]); first | done | rfl | (simp only [List.length_drop, List.length_take]; rfl)) ?_; (with_reducible refine (prio_Sampler_all.calls g s0_0 s0_1 s0_2 s0_3 a2_0 t212 t213 t214 t215 t216 w0 _ ?side1 ?side2 A4.out).mono ?_); (case side1 => repeat (first | (with_reducible first | exact HI0.out | apply IsS54.alloc | apply IsS54.drewN | apply IsS54.drew | apply IsS54.set_1 | apply IsS54.set_2 | apply IsS54.set_3 | refine IsS54.far ?_ NB0_209.out _ | refine IsS54.far ?_ NB0_210.out _ | refine IsS54.far ?_ NB0_211.out _) | exact HI0.out)); (case side2 => repeat (first | (with_reducible first | exact HB.out | apply below_alloc | apply pw_below_drewN | apply below_drew1 | refine below_set ?_ (IsS54.ge HI0.out) | refine below_set ?_ GE209.out | refine below_set ?_ GE210.out | refine below_set ?_ GE211.out) | exact HB.out)); rintro e w70 ⟨rfl, hi, hb, hk⟩; refine ⟨_, rfl, ?_⟩; have n0_ := Aside0.mk (KeepBut.blk hk (g' := gb209) (o := .cells #[.int .u64 a1_0, .int .u64 a1_1, .int .i64 a1_2] 56 (0, 0)) (by (with_reducible repeat (first | refine blk_drewN ?_ _ | refine blk_drew ?_ | refine blk_alloc ?_ _)); exact BK209.out) NB209_0.out (by simp)); have n1_ := Aside0.mk (KeepBut.blk hk (g' := gb210) (o := .cells #[.int .u64 a2_0, .int .u64 a2_1, .int .i64 a2_2] 56 (0, 0)) (by (with_reducible repeat (first | refine blk_drewN ?_ _ | refine blk_drew ?_ | refine blk_alloc ?_ _)); exact BK210.out) NB210_0.out (by simp)); have n2_ := Aside0.mk (KeepBut.blk hk (g' := gb211) (o := .cells #[.int .i64 0, .int .u64 0, .int .u64 0] 33 (0, 0)) (by (with_reducible repeat (first | refine blk_drewN ?_ _ | refine blk_drew ?_ | refine blk_alloc ?_ _)); exact BK211.out) NB211_0.out (by simp)); have n3_ := Aside0.mk (KeepBut.trans (by repeat (first | (with_reducible first | exact HK.out | apply KeepBut.set_ | apply keep_drewN | apply keep_drew | apply keep_alloc | refine keep_far ?_ GW209.out _ | refine keep_far ?_ GW210.out _ | refine keep_far ?_ GW211.out _) | exact HK.out)) hk (.inl rfl)); have n4_ := Aside0.mk (hb); have n5_ := Aside0.mk (hi); clear BK209; clear BK210; clear BK211; clear HK; clear HB; clear HI0; have BK209 := n0_; have BK210 := n1_; have BK211 := n2_; have HK := n3_; have HB := n4_; have HI0 := n5_; clear n0_ n1_ n2_ n3_ n4_ n5_; (try clear hb); (try clear hb2); (try clear hk); (try clear hi)) | ((with_reducible refine gate_dst (N := 7) rfl ?_); refine box_event ?hg (N := 7) ?hd (cs := #[.int .u64 0, .int .u64 0]) (t := 75) ?hr ?_; (case hd => rfl); (case hg => rfl); (case hr => first | (go_simp; done) | (go_simp; rfl)); intro gb217 hg w71 hbox hb; have n0_ := Aside0.mk (IsS54.below (by repeat (first | (with_reducible first | exact HI0.out | apply IsS54.alloc | apply IsS54.drewN | apply IsS54.drew | apply IsS54.set_1 | apply IsS54.set_2 | apply IsS54.set_3 | refine IsS54.far ?_ NB0_209.out _ | refine IsS54.far ?_ NB0_210.out _ | refine IsS54.far ?_ NB0_211.out _) | exact HI0.out)) hb); have n1_ := Aside0.mk (blk_below (g := gb209) (o := .cells #[.int .u64 a1_0, .int .u64 a1_1, .int .i64 a1_2] 56 (0, 0)) (by (with_reducible repeat (first | refine blk_drewN ?_ _ | refine blk_drew ?_ | refine blk_alloc ?_ _)); exact BK209.out) hb); have n2_ := Aside0.mk (blk_below (g := gb210) (o := .cells #[.int .u64 a2_0, .int .u64 a2_1, .int .i64 a2_2] 56 (0, 0)) (by (with_reducible repeat (first | refine blk_drewN ?_ _ | refine blk_drew ?_ | refine blk_alloc ?_ _)); exact BK210.out) hb); have n3_ := Aside0.mk (blk_below (g := gb211) (o := .cells #[.int .i64 0, .int .u64 0, .int .u64 0] 33 (0, 0)) (by (with_reducible repeat (first | refine blk_drewN ?_ _ | refine blk_drew ?_ | refine blk_alloc ?_ _)); exact BK211.out) hb); have n4_ := Aside0.mk (KeepBut.trans (by repeat (first | (with_reducible first | exact HK.out | apply KeepBut.set_ | apply keep_drewN | apply keep_drew | apply keep_alloc | refine keep_far ?_ GW209.out _ | refine keep_far ?_ GW210.out _ | refine keep_far ?_ GW211.out _) | exact HK.out)) (KeepBut.of_below hb g none) (.inl rfl)); have n5_ := Aside0.mk (below_step (by repeat (first | (with_reducible first | exact HB.out | apply below_alloc | apply pw_below_drewN | apply below_drew1 | refine below_set ?_ (IsS54.ge HI0.out) | refine below_set ?_ GE209.out | refine below_set ?_ GE210.out | refine below_set ?_ GE211.out) | exact HB.out)) hb); have n6_ := Aside0.mk (hbox); have n7_ := Aside0.mk ((by rw [hg]; exact (keep_size (w := w) (g := g) (row := none) (by repeat (first | (with_reducible first | exact HK.out | apply KeepBut.set_ | apply keep_drewN | apply keep_drew | apply keep_alloc | refine keep_far ?_ GW209.out _ | refine keep_far ?_ GW210.out _ | refine keep_far ?_ GW211.out _) | exact HK.out))) : w.heap.size ≤ gb217)); have n8_ := Aside0.mk ((Nat.le_trans HW0.out (by rw [hg]; exact (keep_size (w := w) (g := g) (row := none) (by repeat (first | (with_reducible first | exact HK.out | apply KeepBut.set_ | apply keep_drewN | apply keep_drew | apply keep_alloc | refine keep_far ?_ GW209.out _ | refine keep_far ?_ GW210.out _ | refine keep_far ?_ GW211.out _) | exact HK.out))) : w.heap.size ≤ gb217) : w0.heap.size ≤ gb217)); have n9_ := Aside0.mk ((by rw [hg]; exact Nat.ne_of_lt (blk_lt (g := gb209) (o := .cells #[.int .u64 a1_0, .int .u64 a1_1, .int .i64 a1_2] 56 (0, 0)) (by (with_reducible repeat (first | refine blk_drewN ?_ _ | refine blk_drew ?_ | refine blk_alloc ?_ _)); exact BK209.out)) : gb209 ≠ gb217)); have n10_ := Aside0.mk ((by rw [hg]; exact Nat.ne_of_gt (blk_lt (g := gb209) (o := .cells #[.int .u64 a1_0, .int .u64 a1_1, .int .i64 a1_2] 56 (0, 0)) (by (with_reducible repeat (first | refine blk_drewN ?_ _ | refine blk_drew ?_ | refine blk_alloc ?_ _)); exact BK209.out)) : gb217 ≠ gb209)); have n11_ := Aside0.mk ((by rw [hg]; exact Nat.ne_of_lt (blk_lt (g := gb210) (o := .cells #[.int .u64 a2_0, .int .u64 a2_1, .int .i64 a2_2] 56 (0, 0)) (by (with_reducible repeat (first | refine blk_drewN ?_ _ | refine blk_drew ?_ | refine blk_alloc ?_ _)); exact BK210.out)) : gb210 ≠ gb217)); have n12_ := Aside0.mk ((by rw [hg]; exact Nat.ne_of_gt (blk_lt (g := gb210) (o := .cells #[.int .u64 a2_0, .int .u64 a2_1, .int .i64 a2_2] 56 (0, 0)) (by (with_reducible repeat (first | refine blk_drewN ?_ _ | refine blk_drew ?_ | refine blk_alloc ?_ _)); exact BK210.out)) : gb217 ≠ gb210)); have n13_ := Aside0.mk ((by rw [hg]; exact Nat.ne_of_lt (blk_lt (g := gb211) (o := .cells #[.int .i64 0, .int .u64 0, .int .u64 0] 33 (0, 0)) (by (with_reducible repeat (first | refine blk_drewN ?_ _ | refine blk_drew ?_ | refine blk_alloc ?_ _)); exact BK211.out)) : gb211 ≠ gb217)); have n14_ := Aside0.mk ((by rw [hg]; exact Nat.ne_of_gt (blk_lt (g := gb211) (o := .cells #[.int .i64 0, .int .u64 0, .int .u64 0] 33 (0, 0)) (by (with_reducible repeat (first | refine blk_drewN ?_ _ | refine blk_drew ?_ | refine blk_alloc ?_ _)); exact BK211.out)) : gb217 ≠ gb211)); have n15_ := Aside0.mk ((by rw [hg]; exact Nat.ne_of_lt (IsS54.lt (show IsS54 w0 _ g s0_0 t214 t215 t216 from by repeat (first | (with_reducible first | exact HI0.out | apply IsS54.alloc | apply IsS54.drewN | apply IsS54.drew | apply IsS54.set_1 | apply IsS54.set_2 | apply IsS54.set_3 | refine IsS54.far ?_ NB0_209.out _ | refine IsS54.far ?_ NB0_210.out _ | refine IsS54.far ?_ NB0_211.out _) | exact HI0.out))) : g ≠ gb217)); have n16_ := Aside0.mk ((by rw [hg]; exact Nat.ne_of_gt (IsS54.lt (show IsS54 w0 _ g s0_0 t214 t215 t216 from by repeat (first | (with_reducible first | exact HI0.out | apply IsS54.alloc | apply IsS54.drewN | apply IsS54.drew | apply IsS54.set_1 | apply IsS54.set_2 | apply IsS54.set_3 | refine IsS54.far ?_ NB0_209.out _ | refine IsS54.far ?_ NB0_210.out _ | refine IsS54.far ?_ NB0_211.out _) | exact HI0.out))) : gb217 ≠ g)); clear HI0; clear BK209; clear BK210; clear BK211; clear HK; clear HB; have HI0 := n0_; have BK209 := n1_; have BK210 := n2_; have BK211 := n3_; have HK := n4_; have HB := n5_; have BK217 := n6_; have GW217 := n7_; have GE217 := n8_; have NB209_217 := n9_; have NB217_209 := n10_; have NB210_217 := n11_; have NB217_210 := n12_; have NB211_217 := n13_; have NB217_211 := n14_; have NB0_217 := n15_; have NB217_0 := n16_; clear n0_ n1_ n2_ n3_ n4_ n5_ n6_ n7_ n8_ n9_ n10_ n11_ n12_ n13_ n14_ n15_ n16_; clear hb hbox hg; have hnb72 := NB217_209.out; have hnc72 := NB209_217.out; have hnb73 := NB217_210.out; have hnc73 := NB210_217.out; have hnb74 := NB217_211.out; have hnc74 := NB211_217.out; have hnb75 := NB217_0.out; have hnc75 := NB0_217.out; have hcz76_0 : w71.cell? ⟨gb217, 0, none⟩ = some (.int .u64 0) := (blk_cell BK217.out 0).trans rfl; have hcz76_1 : w71.cell? ⟨gb217, 1, none⟩ = some (.int .u64 0) := (blk_cell BK217.out 1).trans rfl; have hfz76_0 := blk_frozen BK217.out 0; have hfz76_1 := blk_frozen BK217.out 1))
    have n0_ : Aside0 (((w71.setCell ⟨gb217, 0, none⟩ (.int .u64 t212)).setCell ⟨gb217, 1, none⟩ (.int .u64 t213)).heap[gb209]? = some (.cells #[.int .u64 a1_0, .int .u64 a1_1, .int .i64 a1_2] 56 (0, 0))) := ⟨by (with_reducible repeat (first | refine blk_drewN ?_ _ | refine blk_drew ?_ | refine blk_alloc ?_ _)); refine blk_far ?_ NB209_217.out _; (with_reducible repeat (first | refine blk_drewN ?_ _ | refine blk_drew ?_ | refine blk_alloc ?_ _)); refine blk_far ?_ NB209_217.out _; (with_reducible repeat (first | refine blk_drewN ?_ _ | refine blk_drew ?_ | refine blk_alloc ?_ _)); exact BK209.out⟩
    have n1_ : Aside0 (((w71.setCell ⟨gb217, 0, none⟩ (.int .u64 t212)).setCell ⟨gb217, 1, none⟩ (.int .u64 t213)).heap[gb210]? = some (.cells #[.int .u64 a2_0, .int .u64 a2_1, .int .i64 a2_2] 56 (0, 0))) := ⟨by (with_reducible repeat (first | refine blk_drewN ?_ _ | refine blk_drew ?_ | refine blk_alloc ?_ _)); refine blk_far ?_ NB210_217.out _; (with_reducible repeat (first | refine blk_drewN ?_ _ | refine blk_drew ?_ | refine blk_alloc ?_ _)); refine blk_far ?_ NB210_217.out _; (with_reducible repeat (first | refine blk_drewN ?_ _ | refine blk_drew ?_ | refine blk_alloc ?_ _)); exact BK210.out⟩
    have n2_ : Aside0 (((w71.setCell ⟨gb217, 0, none⟩ (.int .u64 t212)).setCell ⟨gb217, 1, none⟩ (.int .u64 t213)).heap[gb211]? = some (.cells #[.int .i64 0, .int .u64 0, .int .u64 0] 33 (0, 0))) := ⟨by (with_reducible repeat (first | refine blk_drewN ?_ _ | refine blk_drew ?_ | refine blk_alloc ?_ _)); refine blk_far ?_ NB211_217.out _; (with_reducible repeat (first | refine blk_drewN ?_ _ | refine blk_drew ?_ | refine blk_alloc ?_ _)); refine blk_far ?_ NB211_217.out _; (with_reducible repeat (first | refine blk_drewN ?_ _ | refine blk_drew ?_ | refine blk_alloc ?_ _)); exact BK211.out⟩
    have n3_ : Aside0 (((w71.setCell ⟨gb217, 0, none⟩ (.int .u64 t212)).setCell ⟨gb217, 1, none⟩ (.int .u64 t213)).heap[gb217]? = some (.cells #[.int .u64 t212, .int .u64 t213] 75 (0, 0))) := ⟨by (with_reducible repeat (first | refine blk_drewN ?_ _ | refine blk_drew ?_ | refine blk_alloc ?_ _)); refine blk_put (cs := #[.int .u64 t212, .int .u64 0]) ?_ 1 _ rfl; (with_reducible repeat (first | refine blk_drewN ?_ _ | refine blk_drew ?_ | refine blk_alloc ?_ _)); refine blk_put (cs := #[.int .u64 0, .int .u64 0]) ?_ 0 _ rfl; (with_reducible repeat (first | refine blk_drewN ?_ _ | refine blk_drew ?_ | refine blk_alloc ?_ _)); exact BK217.out⟩
    have n4_ : Aside0 (IsS54 w0 ((w71.setCell ⟨gb217, 0, none⟩ (.int .u64 t212)).setCell ⟨gb217, 1, none⟩ (.int .u64 t213)) g s0_0 t214 t215 t216) := ⟨by repeat (first | (with_reducible first | exact HI0.out | apply IsS54.alloc | apply IsS54.drewN | apply IsS54.drew | apply IsS54.set_1 | apply IsS54.set_2 | apply IsS54.set_3 | refine IsS54.far ?_ NB0_209.out _ | refine IsS54.far ?_ NB0_210.out _ | refine IsS54.far ?_ NB0_211.out _ | refine IsS54.far ?_ NB0_217.out _) | exact HI0.out)⟩
    have n5_ : Aside0 (KeepBut w ((w71.setCell ⟨gb217, 0, none⟩ (.int .u64 t212)).setCell ⟨gb217, 1, none⟩ (.int .u64 t213)) g none) := ⟨by repeat (first | (with_reducible first | exact HK.out | apply KeepBut.set_ | apply keep_drewN | apply keep_drew | apply keep_alloc | refine keep_far ?_ GW209.out _ | refine keep_far ?_ GW210.out _ | refine keep_far ?_ GW211.out _ | refine keep_far ?_ GW217.out _) | exact HK.out)⟩
    have n6_ : Aside0 (Below w0.heap.size w0 ((w71.setCell ⟨gb217, 0, none⟩ (.int .u64 t212)).setCell ⟨gb217, 1, none⟩ (.int .u64 t213))) := ⟨by repeat (first | (with_reducible first | exact HB.out | apply below_alloc | apply pw_below_drewN | apply below_drew1 | refine below_set ?_ (IsS54.ge HI0.out) | refine below_set ?_ GE209.out | refine below_set ?_ GE210.out | refine below_set ?_ GE211.out | refine below_set ?_ GE217.out) | exact HB.out)⟩
    (try clear BK209)
    (try clear BK210)
    (try clear BK211)
    (try clear BK217)
    (try clear HI0)
    (try clear HK)
    (try clear HB)
    generalize ((w71.setCell ⟨gb217, 0, none⟩ (.int .u64 t212)).setCell ⟨gb217, 1, none⟩ (.int .u64 t213)) = w77 at n0_ n1_ n2_ n3_ n4_ n5_ n6_ ⊢
    have BK209 := n0_
    have BK210 := n1_
    have BK211 := n2_
    have BK217 := n3_
    have HI0 := n4_
    have HK := n5_
    have HB := n6_
    clear n0_ n1_ n2_ n3_ n4_ n5_ n6_
    have n0_ := Aside0.mk (blk_drew BK209.out)
    have n1_ := Aside0.mk (blk_drew BK210.out)
    have n2_ := Aside0.mk (blk_drew BK211.out)
    have n3_ := Aside0.mk (blk_drew BK217.out)
    have n4_ := Aside0.mk (IsS54.drew HI0.out)
    have n5_ := Aside0.mk (keep_drew HK.out)
    have n6_ := Aside0.mk (below_drew1 HB.out)
    clear BK209
    clear BK210
    clear BK211
    clear BK217
    clear HI0
    clear HK
    clear HB
    have BK209 := n0_
    have BK210 := n1_
    have BK211 := n2_
    have BK217 := n3_
    have HI0 := n4_
    have HK := n5_
    have HB := n6_
    clear n0_ n1_ n2_ n3_ n4_ n5_ n6_
    refine start_ (n := 8) (S := fun w' => w'.cell? ⟨gb217, 0, none⟩ = some (.int .u64 t212) ∧ w'.cell? ⟨gb217, 1, none⟩ = some (.int .u64 t213) ∧ w'.cell? ⟨gb209, 0, none⟩ = some (.int .u64 a1_0) ∧ w'.cell? ⟨gb209, 1, none⟩ = some (.int .u64 a1_1) ∧ w'.cell? ⟨gb209, 2, none⟩ = some (.int .i64 a1_2) ∧ w'.cell? ⟨gb210, 0, none⟩ = some (.int .u64 a2_0) ∧ w'.cell? ⟨gb210, 1, none⟩ = some (.int .u64 a2_1) ∧ w'.cell? ⟨gb210, 2, none⟩ = some (.int .i64 a2_2)) (ds := []) #[false, false, false, false, false, false, false, false] (by kernel_rfl) rfl rfl ⟨(blk_cell BK217.out 0).trans rfl, (blk_cell BK217.out 1).trans rfl, (blk_cell BK209.out 0).trans rfl, (blk_cell BK209.out 1).trans rfl, (blk_cell BK209.out 2).trans rfl, (blk_cell BK210.out 0).trans rfl, (blk_cell BK210.out 1).trans rfl, (blk_cell BK210.out 2).trans rfl⟩ (fun hHeld => ?_); refine with_tabW prio_Sampler_counts.tab2 prio_Sampler_counts.bits2 (fun HT_ HW_ => ?_)
    generalize w77.drew = w78 at BK209 BK210 BK211 BK217 HI0 HK HB hHeld ⊢
    refine pure_ (i := 1) (N := some 16) (v := ?_) (a' := ?_) #[false, true, false, false, false, false, false, false] rfl rfl (any_of HT_.out (by kernel_rfl)) (fun _ _ _ h => h) (Or.inl ⟨by rfl, ?_⟩) ?_ ?_
    rotate_left
    · intro w'
      go_simp
      with_reducible rfl
    rotate_left
    · simp only [Act.put, List.setIfInBounds_toArray, List.set_cons_zero, List.set_cons_succ, i64_w, i32_w]
      rfl
    refine pure_ (i := 3) (N := some 18) (v := ?_) (a' := ?_) #[false, true, false, true, false, false, false, false] rfl rfl (any_of HT_.out (by kernel_rfl)) (fun _ _ _ h => h) (Or.inl ⟨by rfl, ?_⟩) ?_ ?_
    rotate_left
    · intro w'
      go_simp
      with_reducible rfl
    rotate_left
    · simp only [Act.put, List.setIfInBounds_toArray, List.set_cons_zero, List.set_cons_succ, i64_w, i32_w]
      rfl
    refine take_ (i := 0) (N := some 15) (v := ?_) (a' := ?_) #[true, true, false, true, false, false, false, false] rfl rfl (take_ofW HT_.out HW_.out (by kernel_rfl)) (fun _ _ _ h => h) (Or.inl ⟨by rfl, ?_⟩) hHeld ?_ ?_
    rotate_left
    · rintro w' ⟨s0, s1, s2, s3, s4, s5, s6, s7⟩
      go_simp
      with_reducible rfl
    rotate_left
    · simp only [Act.put, List.setIfInBounds_toArray, List.set_cons_zero, List.set_cons_succ, i64_w, i32_w]
      rfl
    refine take_ (i := 2) (N := some 17) (v := ?_) (a' := ?_) #[true, true, true, true, false, false, false, false] rfl rfl (take_ofW HT_.out HW_.out (by kernel_rfl)) (fun _ _ _ h => h) (Or.inl ⟨by rfl, ?_⟩) hHeld ?_ ?_
    rotate_left
    · rintro w' ⟨s0, s1, s2, s3, s4, s5, s6, s7⟩
      go_simp
      with_reducible rfl
    rotate_left
    · simp only [Act.put, List.setIfInBounds_toArray, List.set_cons_zero, List.set_cons_succ, i64_w, i32_w]
      rfl
    refine take_ (i := 4) (N := some 19) (v := ?_) (a' := ?_) #[true, true, true, true, true, false, false, false] rfl rfl (take_ofW HT_.out HW_.out (by kernel_rfl)) (fun _ _ _ h => h) (Or.inl ⟨by rfl, ?_⟩) hHeld ?_ ?_
    rotate_left
    · rintro w' ⟨s0, s1, s2, s3, s4, s5, s6, s7⟩
      go_simp
      with_reducible rfl
    rotate_left
    · simp only [Act.put, List.setIfInBounds_toArray, List.set_cons_zero, List.set_cons_succ, i64_w, i32_w]
      rfl
    refine one_ (i := 5) (N := some 20) #[true, true, true, true, true, true, false, false] rfl rfl (one_of HT_.out (by kernel_rfl)) (by decide) (fun K hK => ?_)
    refine goes_ Try.func29 (by kernel_rfl) rfl #[.int .u64 a1_0, .int .u64 a2_1] (by rfl) rfl rfl (by (try simp only [List.map_toArray, List.map_cons, List.map_nil]); first | done | rfl | (simp only [List.length_drop, List.length_take]; rfl)) ?_
    with_reducible refine (prio_next.calls a1_0 a2_1 t218 t219 _ A5.out).mono ?_
    rintro e w79 ⟨rfl, hb⟩
    refine ⟨_, rfl, ?_⟩
    have n0_ := Aside0.mk (IsS54.below (by repeat (first | (with_reducible first | exact HI0.out | apply IsS54.alloc | apply IsS54.drewN | apply IsS54.drew | apply IsS54.set_1 | apply IsS54.set_2 | apply IsS54.set_3 | refine IsS54.far ?_ NB0_209.out _ | refine IsS54.far ?_ NB0_210.out _ | refine IsS54.far ?_ NB0_211.out _ | refine IsS54.far ?_ NB0_217.out _) | exact HI0.out)) hb)
    have n1_ := Aside0.mk (blk_below (g := gb209) (o := .cells #[.int .u64 a1_0, .int .u64 a1_1, .int .i64 a1_2] 56 (0, 0)) (by (with_reducible repeat (first | refine blk_drewN ?_ _ | refine blk_drew ?_ | refine blk_alloc ?_ _)); exact BK209.out) hb)
    have n2_ := Aside0.mk (blk_below (g := gb210) (o := .cells #[.int .u64 a2_0, .int .u64 a2_1, .int .i64 a2_2] 56 (0, 0)) (by (with_reducible repeat (first | refine blk_drewN ?_ _ | refine blk_drew ?_ | refine blk_alloc ?_ _)); exact BK210.out) hb)
    have n3_ := Aside0.mk (blk_below (g := gb211) (o := .cells #[.int .i64 0, .int .u64 0, .int .u64 0] 33 (0, 0)) (by (with_reducible repeat (first | refine blk_drewN ?_ _ | refine blk_drew ?_ | refine blk_alloc ?_ _)); exact BK211.out) hb)
    have n4_ := Aside0.mk (blk_below (g := gb217) (o := .cells #[.int .u64 t212, .int .u64 t213] 75 (0, 0)) (by (with_reducible repeat (first | refine blk_drewN ?_ _ | refine blk_drew ?_ | refine blk_alloc ?_ _)); exact BK217.out) hb)
    have n5_ := Aside0.mk (KeepBut.trans (by repeat (first | (with_reducible first | exact HK.out | apply KeepBut.set_ | apply keep_drewN | apply keep_drew | apply keep_alloc | refine keep_far ?_ GW209.out _ | refine keep_far ?_ GW210.out _ | refine keep_far ?_ GW211.out _ | refine keep_far ?_ GW217.out _) | exact HK.out)) (KeepBut.of_below hb g none) (.inl rfl))
    have n6_ := Aside0.mk (below_step (by repeat (first | (with_reducible first | exact HB.out | apply below_alloc | apply pw_below_drewN | apply below_drew1 | refine below_set ?_ (IsS54.ge HI0.out) | refine below_set ?_ GE209.out | refine below_set ?_ GE210.out | refine below_set ?_ GE211.out | refine below_set ?_ GE217.out) | exact HB.out)) hb)
    clear HI0
    clear BK209
    clear BK210
    clear BK211
    clear BK217
    clear HK
    clear HB
    have HI0 := n0_
    have BK209 := n1_
    have BK210 := n2_
    have BK211 := n3_
    have BK217 := n4_
    have HK := n5_
    have HB := n6_
    clear n0_ n1_ n2_ n3_ n4_ n5_ n6_
    (try clear hb)
    (try clear hb2)
    (try clear hk)
    (try clear hi)
    refine hK.out _ _ ⟨(blk_cell BK217.out 0).trans rfl, (blk_cell BK217.out 1).trans rfl, (blk_cell BK209.out 0).trans rfl, (blk_cell BK209.out 1).trans rfl, (blk_cell BK209.out 2).trans rfl, (blk_cell BK210.out 0).trans rfl, (blk_cell BK210.out 1).trans rfl, (blk_cell BK210.out 2).trans rfl⟩ (fun hHeld => ?_)
    clear hK K
    refine norm_ (a' := ?_) ?_ ?_
    rotate_left
    · show Act.put _ (some 20) _ = _
      simp only [Act.put, List.setIfInBounds_toArray, List.set_cons_zero, List.set_cons_succ, i64_w, i32_w]
      rfl
    refine one_ (i := 6) (N := some 21) #[true, true, true, true, true, true, true, false] rfl rfl (one_of HT_.out (by kernel_rfl)) (by decide) (fun K hK => ?_)
    refine goes_ Try.func30 (by kernel_rfl) rfl #[.agg #[.int .u64 t212, .int .u64 t213], .agg #[.int .u64 t218, .int .u64 t219]] (by rfl) rfl rfl (by (try simp only [List.map_toArray, List.map_cons, List.map_nil]); first | done | rfl | (simp only [List.length_drop, List.length_take]; rfl)) ?_
    with_reducible refine (prio_wide_above.calls t212 t213 t218 t219 false _ A6.out).mono ?_
    rintro e w80 ⟨rfl, hb⟩
    refine ⟨_, rfl, ?_⟩
    have n0_ := Aside0.mk (IsS54.below (by repeat (first | (with_reducible first | exact HI0.out | apply IsS54.alloc | apply IsS54.drewN | apply IsS54.drew | apply IsS54.set_1 | apply IsS54.set_2 | apply IsS54.set_3 | refine IsS54.far ?_ NB0_209.out _ | refine IsS54.far ?_ NB0_210.out _ | refine IsS54.far ?_ NB0_211.out _ | refine IsS54.far ?_ NB0_217.out _) | exact HI0.out)) hb)
    have n1_ := Aside0.mk (blk_below (g := gb209) (o := .cells #[.int .u64 a1_0, .int .u64 a1_1, .int .i64 a1_2] 56 (0, 0)) (by (with_reducible repeat (first | refine blk_drewN ?_ _ | refine blk_drew ?_ | refine blk_alloc ?_ _)); exact BK209.out) hb)
    have n2_ := Aside0.mk (blk_below (g := gb210) (o := .cells #[.int .u64 a2_0, .int .u64 a2_1, .int .i64 a2_2] 56 (0, 0)) (by (with_reducible repeat (first | refine blk_drewN ?_ _ | refine blk_drew ?_ | refine blk_alloc ?_ _)); exact BK210.out) hb)
    have n3_ := Aside0.mk (blk_below (g := gb211) (o := .cells #[.int .i64 0, .int .u64 0, .int .u64 0] 33 (0, 0)) (by (with_reducible repeat (first | refine blk_drewN ?_ _ | refine blk_drew ?_ | refine blk_alloc ?_ _)); exact BK211.out) hb)
    have n4_ := Aside0.mk (blk_below (g := gb217) (o := .cells #[.int .u64 t212, .int .u64 t213] 75 (0, 0)) (by (with_reducible repeat (first | refine blk_drewN ?_ _ | refine blk_drew ?_ | refine blk_alloc ?_ _)); exact BK217.out) hb)
    have n5_ := Aside0.mk (KeepBut.trans (by repeat (first | (with_reducible first | exact HK.out | apply KeepBut.set_ | apply keep_drewN | apply keep_drew | apply keep_alloc | refine keep_far ?_ GW209.out _ | refine keep_far ?_ GW210.out _ | refine keep_far ?_ GW211.out _ | refine keep_far ?_ GW217.out _) | exact HK.out)) (KeepBut.of_below hb g none) (.inl rfl))
    have n6_ := Aside0.mk (below_step (by repeat (first | (with_reducible first | exact HB.out | apply below_alloc | apply pw_below_drewN | apply below_drew1 | refine below_set ?_ (IsS54.ge HI0.out) | refine below_set ?_ GE209.out | refine below_set ?_ GE210.out | refine below_set ?_ GE211.out | refine below_set ?_ GE217.out) | exact HB.out)) hb)
    clear HI0
    clear BK209
    clear BK210
    clear BK211
    clear BK217
    clear HK
    clear HB
    have HI0 := n0_
    have BK209 := n1_
    have BK210 := n2_
    have BK211 := n3_
    have BK217 := n4_
    have HK := n5_
    have HB := n6_
    clear n0_ n1_ n2_ n3_ n4_ n5_ n6_
    (try clear hb)
    (try clear hb2)
    (try clear hk)
    (try clear hi)
    refine hK.out _ _ ⟨(blk_cell BK217.out 0).trans rfl, (blk_cell BK217.out 1).trans rfl, (blk_cell BK209.out 0).trans rfl, (blk_cell BK209.out 1).trans rfl, (blk_cell BK209.out 2).trans rfl, (blk_cell BK210.out 0).trans rfl, (blk_cell BK210.out 1).trans rfl, (blk_cell BK210.out 2).trans rfl⟩ (fun hHeld => ?_)
    clear hK K
    refine norm_ (a' := ?_) ?_ ?_
    rotate_left
    · show Act.put _ (some 21) _ = _
      simp only [Act.put, List.setIfInBounds_toArray, List.set_cons_zero, List.set_cons_succ, i64_w, i32_w]
      rfl
    refine pure_ (i := 7) (N := some 22) (v := ?_) (a' := ?_) #[true, true, true, true, true, true, true, true] rfl rfl (any_of HT_.out (by kernel_rfl)) (fun _ _ _ h => h) (Or.inl ⟨by rfl, ?_⟩) ?_ ?_
    rotate_left
    · intro w'
      go_simp
      with_reducible rfl
    rotate_left
    · simp only [Act.put, List.setIfInBounds_toArray, List.set_cons_zero, List.set_cons_succ, i64_w, i32_w]
      rfl
    refine done_ (done_of HT_.out (by kernel_rfl)) ?_
    have hnb81 := NB209_211.out
    have hnc81 := NB211_209.out
    have hnb82 := NB209_0.out
    have hnc82 := NB0_209.out
    have hcz83_0 : w80.cell? ⟨gb209, 0, none⟩ = some (.int .u64 a1_0) := (blk_cell BK209.out 0).trans rfl
    have hcz83_1 : w80.cell? ⟨gb209, 1, none⟩ = some (.int .u64 a1_1) := (blk_cell BK209.out 1).trans rfl
    have hcz83_2 : w80.cell? ⟨gb209, 2, none⟩ = some (.int .i64 a1_2) := (blk_cell BK209.out 2).trans rfl
    have hfz83_0 := blk_frozen BK209.out 0
    have hfz83_1 := blk_frozen BK209.out 1
    have hfz83_2 := blk_frozen BK209.out 2
    have hnb84 := NB211_0.out
    have hnc84 := NB0_211.out
    have hcz85_0 : w80.cell? ⟨gb211, 0, none⟩ = some (.int .i64 0) := (blk_cell BK211.out 0).trans rfl
    have hcz85_1 : w80.cell? ⟨gb211, 1, none⟩ = some (.int .u64 0) := (blk_cell BK211.out 1).trans rfl
    have hcz85_2 : w80.cell? ⟨gb211, 2, none⟩ = some (.int .u64 0) := (blk_cell BK211.out 2).trans rfl
    have hfz85_0 := blk_frozen BK211.out 0
    have hfz85_1 := blk_frozen BK211.out 1
    have hfz85_2 := blk_frozen BK211.out 2
    try go_wp2
    refine bodyPost_ret (results_cell_row rfl _ _ gb211 33 #[.int .i64 a1_2, .int .u64 a1_0, .int .u64 1] (0, 0) _ rfl (by (with_reducible repeat (first | refine blk_drewN ?_ _ | refine blk_drew ?_ | refine blk_alloc ?_ _)); refine blk_put (cs := #[.int .i64 a1_2, .int .u64 a1_0, .int .u64 0]) ?_ 2 _ rfl; (with_reducible repeat (first | refine blk_drewN ?_ _ | refine blk_drew ?_ | refine blk_alloc ?_ _)); refine blk_put (cs := #[.int .i64 a1_2, .int .u64 0, .int .u64 0]) ?_ 1 _ rfl; (with_reducible repeat (first | refine blk_drewN ?_ _ | refine blk_drew ?_ | refine blk_alloc ?_ _)); refine blk_put (cs := #[.int .i64 0, .int .u64 0, .int .u64 0]) ?_ 0 _ rfl; (with_reducible repeat (first | refine blk_drewN ?_ _ | refine blk_drew ?_ | refine blk_alloc ?_ _)); exact BK211.out) Try.underlying33 rfl (by kernel_rfl)) rfl ?_
    exact ⟨by first | rfl | (simp [errW_none, errW_some] <;> rfl) | (simp [*, errW_none, errW_some] <;> rfl), by repeat (first | (with_reducible first | exact HI0.out | apply IsS54.alloc | apply IsS54.drewN | apply IsS54.drew | apply IsS54.set_1 | apply IsS54.set_2 | apply IsS54.set_3 | refine IsS54.far ?_ NB0_209.out _ | refine IsS54.far ?_ NB0_210.out _ | refine IsS54.far ?_ NB0_211.out _ | refine IsS54.far ?_ NB0_217.out _) | exact HI0.out), by repeat (first | (with_reducible first | exact HB.out | apply below_alloc | apply pw_below_drewN | apply below_drew1 | refine below_set ?_ (IsS54.ge HI0.out) | refine below_set ?_ GE209.out | refine below_set ?_ GE210.out | refine below_set ?_ GE211.out | refine below_set ?_ GE217.out) | exact HB.out), by repeat (first | (with_reducible first | exact HK.out | apply KeepBut.set_ | apply keep_drewN | apply keep_drew | apply keep_alloc | refine keep_far ?_ GW209.out _ | refine keep_far ?_ GW210.out _ | refine keep_far ?_ GW211.out _ | refine keep_far ?_ GW217.out _) | exact HK.out)⟩

end Go.Proofs.Ythlmgamdnclmhaa.R
